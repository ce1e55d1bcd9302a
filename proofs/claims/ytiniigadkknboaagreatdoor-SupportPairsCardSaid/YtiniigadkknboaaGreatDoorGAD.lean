/- Contracts and laws: GAD. -/
import Derived.Test.YtiniigadkknboaaGreatDoorGAC
import Derived.Test.YtiniigadkknboaaGreatDoorGAB
import Derived.Test.YtiniigadkknboaaGreatDoorGAA
import Derived.Test.YtiniigadkknboaaGreatDoorLaysGrow
import Derived.Laws.AppendOwnNone
import Derived.Deep.QuietTactic
import Derived.BigQuiet

set_option maxRecDepth 100000
set_option maxHeartbeats 4000000
namespace Go.Proofs.YtiniigadkknboaaGreatDoor
open Go.RowKit Go.Lib
attribute [local go_sem ↓] Go.wp_at_zero Go.wp_at_succ
structure PA (w:World) (B n:Nat) (v:Value):Prop where
 a0:∃ x,w.cell? ⟨B,0,none⟩=some x
 a1:∃ x,w.cell? ⟨B,1,none⟩=some x
 fa0:w.frozen? ⟨B,0,none⟩=false
 fa1:w.frozen? ⟨B,1,none⟩=false
 b0:w.cell? ⟨B+1,0,none⟩=some (.int .i64 n)
 b1:w.cell? ⟨B+1,1,none⟩=some v
 fb0:w.frozen? ⟨B+1,0,none⟩=false
 fb1:w.frozen? ⟨B+1,1,none⟩=false
theorem PA.fx {w w':World} {B n:Nat} {v:Value} {p:Nat→Prop} (h:PA w B n v) (k:Fx p w w') (h0:¬ p B) (h1:¬ p (B+1)):PA w' B n v:=by
 obtain ⟨⟨x,hx⟩,⟨y,hy⟩,fa0,fa1,b0,b1,fb0,fb1⟩:=h
 exact ⟨⟨x,k.keep hx h0⟩,⟨y,k.keep hy h0⟩,k.keepf hx fa0 h0,k.keepf hy fa1 h0,k.keep b0 h1,k.keep b1 h1,k.keepf b0 fb0 h1,k.keepf b1 fb1 h1⟩
theorem PA.set {w:World} {B n:Nat} {v:Value} (h:PA w B n v) (u:Value):PA (w.setCell ⟨B+1,1,none⟩ u) B n u:=by
 obtain ⟨⟨x,hx⟩,⟨y,hy⟩,fa0,fa1,b0,b1,fb0,fb1⟩:=h
 have e1:(⟨B+1,1,none⟩:Addr)≠⟨B,0,none⟩:=fun e=>by injection e with e; omega
 have e2:(⟨B+1,1,none⟩:Addr)≠⟨B,1,none⟩:=fun e=>by injection e with e; omega
 have e3:(⟨B+1,1,none⟩:Addr)≠⟨B+1,0,none⟩:=fun e=>by injection e with _ e; omega
 refine ⟨⟨x, ?_⟩,⟨y, ?_⟩, ?_, ?_, ?_, ?_, ?_, ?_⟩
 ·rw [Ad _ _ _ _ e1]; exact hx
 ·rw [Ad _ _ _ _ e2]; exact hy
 ·rw [Am]; exact fa0
 ·rw [Am]; exact fa1
 ·rw [Ad _ _ _ _ e3]; exact b0
 ·exact Al _ _ _ (by rw [b1]; rfl)
 ·rw [Am]; exact fb0
 ·rw [Am]; exact fb1
def N4 (w:World) (n:Nat) (g:List (List Int)) (e:Ending) (w':World):Prop:=∃ a c,e=.returned (.tuple #[.agg #[.int .i64 n,.slice a g.length c],.int .i64 0])∧(∀ W,Fx (· < w.heap.size) w' W→A5 W a g)∧Fr w w'
theorem Si (ob oc tF n:Nat) (hs:List (Nat×Nat×Nat)) (g:List (List Int)) (w:World) (hG:G w) (hg:Bz w ob 0 hs g) (hl:g.length≤1000000) (ht:tF≤g.length) (hr:∀ r,r ∈ g→r.length≤1000000) (hb:∀ r,r ∈ g→∀ x,x ∈ r→Bq x=true) :
 Calls Tryz.prog 91 #[.slice (some ⟨ob,0,none⟩) tF oc,.int .i64 n] w (N4 w n (g.take tF)):=by
 have hgn:=GB hG
 obtain ⟨i1,ji,jz0,jz1,jz2⟩:=AZ NK
 replace hg:=hZ hg
 replace hr:=hZ hr
 replace hb:=hZ hb
 replace hG:=hZ hG
 go_enter Tryz.func91,Tryz.ntmps91
 go_wp2_with fail
 have htwo:PA ((w.alloc (.cells #[.int .i64 0,.slice none 0 0] 76)).alloc (.cells #[.int .i64 n,.slice none 0 0] 76)) w.heap.size n (.slice none 0 0):=by
  have hfr:Fr (w.alloc (.cells #[.int .i64 0,.slice none 0 0] 76)) ((w.alloc (.cells #[.int .i64 0,.slice none 0 0] 76)).alloc (.cells #[.int .i64 n,.slice none 0 0] 76)):=(Fr.refl _).alloc _
  have p1:=CC w (.int .i64 0) (.slice none 0 0) 76
  have p2:=Ct w (.int .i64 0) (.slice none 0 0) 76
  have p3:=CC (w.alloc (.cells #[.int .i64 0,.slice none 0 0] 76)) (.int .i64 n) (.slice none 0 0) 76
  have p4:=Ct (w.alloc (.cells #[.int .i64 0,.slice none 0 0] 76)) (.int .i64 n) (.slice none 0 0) 76
  rw [AF] at p3 p4
  exact ⟨⟨_,hfr.keep p1.1⟩,⟨_,hfr.keep p2.1⟩,hfr.keepf p1.1 p1.2,hfr.keepf p2.1 p2.2,p3.1,p4.1,p3.2,p4.2⟩
 have hfr0:Fr w ((w.alloc (.cells #[.int .i64 0,.slice none 0 0] 76)).alloc (.cells #[.int .i64 n,.slice none 0 0] 76)):=((Fr.refl _).alloc _).alloc _
 go_loopg [15] tF (fun k s15 wr=>∃ (j:Nat) (hO:List (Nat×Nat×Nat)) (v:Value),s15=.int .i64 j∧j+k=tF∧Fr w wr∧Hid (w.heap.size+2≤wr.heap.size)∧PA wr w.heap.size n v∧GI wr (w.heap.size+2) 33 v hO (g.take j)∧Hid (∀ h,h ∈ hO→w.heap.size+2≤h.1))
 case atStart=>exact ⟨0,[],_,rfl,by omega,hfr0,by show _≤_; simp,htwo,GI.nil _ _ _ (by omega),fun h hm=>by simp at hm⟩
 case round=>
  clear htwo hfr0
  obtain ⟨j,hO,v,rfl,hjk,hf,hsz,htw,hgi,hnew⟩:=hrel
  obtain ⟨⟨x0,a0⟩,⟨x1,a1⟩,fa0,fa1,b0,b1,fb0,fb1⟩:=htw
  have htw:=hZ (show PA wr w.heap.size n v from ⟨⟨x0,a0⟩,⟨x1,a1⟩,fa0,fa1,b0,b1,fb0,fb1⟩)
  by_cases hlt:j < tF
  ·have hjl:j < g.length:=by omega
   obtain ⟨rb,ro,rc,e1,ca1,cf1,ro1,bo1⟩:=(hg.out.fr hf).at hjl
   rw [AN] at ca1
   have hsn:=BN (Ac hjl)
   have hrj:=hr.out _ (AG hjl)
   have hsh:=Nr g[j] rb ro rc wr (hG.out.fr hf) ro1 hrj (hb.out _ (AG hjl))
   have hgl:(g.take j).length=j:=by rw [Av]; omega
   generalize g[j]=row at *
   obtain ⟨m,hm⟩:∃ m,m=row.length:=⟨_,rfl⟩
   rw [← hm] at ca1 hsh
   replace hm:=hZ hm
   replace hsn:=hZ hsn
   replace hgl:=hZ hgl
   replace hgi:=hZ hgi
   replace ro1:=hZ ro1
   replace e1:=hZ e1
   clear a0 a1 fa0 fa1 b0 b1 fb0 fb1
   go_wp2_with fail
   refine hsh.mono ?_
   clear hsh
   rintro e w2 ⟨gg,c,rfl,hf2,hown2⟩
   obtain ⟨hO2,-,-,hgb,hcp⟩:=DV (As hgn hf.size) hown2
   have hgi2:=hgi.out.fr hf2
   have hne:v.ownBlock≠some gg:=fun e=>by have h9:=(hgi.out.own.lt gg e).2; omega
   have hne2:∀ h',h' ∈ hO→h'.1≠gg:=fun h' hm e2=>by have h9:=hgi.out.lt h' hm; omega
   have hown3:=hgi2.own
   rw [hgl.out] at hown3
   rw [← hm.out]
   have hvb:∀ b,v.ownBlock=some b→w.heap.size+2≤b:=fun b e=>(hgi2.own.lt b e).1
   have htw2:=htw.out.fx (p:=fun _=>False) (Fx.of_fr hf2) (fun e=>e) (fun e=>e)
   obtain ⟨⟨y0,a0⟩,⟨y1,a1⟩,fa0,fa1,b0,b1,fb0,fb1⟩:=htw2
   have htw2:=hZ (show PA w2 w.heap.size n v from ⟨⟨y0,a0⟩,⟨y1,a1⟩,fa0,fa1,b0,b1,fb0,fb1⟩)
   clear a0 a1 fa0 fa1 b0
   replace hgi2:=hZ hgi2
   replace hown2:=hZ hown2
   replace hvb:=hZ hvb
   have hszz:=hsz.out
   have htwA:∀ wA:World,(w2.alloc (.cells #[.slice (some ⟨gg,0,none⟩) m c] 33)).grownBy wA v.ownBlock→PA wA w.heap.size n v:=fun wA hgw=>
    (htw2.out.fx (p:=fun _=>False) (Fx.of_fr ((Fr.refl w2).alloc _)) (fun e=>e) (fun e=>e)).fx (Fx.of_grown hgw) (fun e=>by have:=hvb.out _ e; omega) (fun e=>by have:=hvb.out _ e; omega)
   replace htwA:=hZ htwA
   go_wp2_with (at_builtin; refine wpList_append_lies _ rfl _ _ 27 (by rfl) _ 33 _ _ 1 24 Tryz.underlying27 ji jz0 jz1 jz2 rfl (by decide) _ j _ (by rfl) (Az hown3 _) ⟨w2.heap.size,0,none⟩ 1 1 [.slice (some ⟨gg,0,none⟩) m c] (by rfl) rfl (AK _ _ _ _ (by simp)) (by simp [Value.oneCell']) (by decide) (by unfold maxLen; omega) (by omega) (by have:=(hf.trans hf2).size; have:=hf2.size; simp; omega) (w2.heap.size+1) (by simp) ?_; intro gA capA wA hownA hgrowA hatA hltA; have htw3:=htwA.out wA hgrowA; have hbb:=htw3.b1; have hfb:=htw3.fb1; replace htw3:=hZ htw3)
   have hpush:=(hgi2.out.fr ((Fr.refl w2).alloc _)).pushN (hd:=(gg,0,c)) (hO2.fr ((Fr.refl w2).alloc _)) hne2 hne hgl.out (by unfold Jq; rw [← hm.out]) hownA hgrowA (hatA.imp id (fun e=>by rw [e]; simp))
   rw [← hsn.out] at hpush
   have hfrA:Fr w wA:=(((hf.trans hf2).alloc _)).grown hgrowA (fun k e=>by have:=hvb.out k e; omega)
   have hfx9:Fx (·=w.heap.size+1) wA (wA.setCell ⟨w.heap.size+1,1,none⟩ (.slice (some ⟨gA,0,none⟩) (j+1) capA)):=Fx.setCell (p:=(·=w.heap.size+1)) (q:=⟨w.heap.size+1,1,none⟩) (Fx.refl _ wA) (.inl rfl) _
   have hpush2:=hpush.fx hfx9 (fun b e e2=>by have e3:b=w.heap.size+1:=e2; have h9:=(hpush.own.lt b e).1; omega) (fun hd hm9 e2=>by rcases BD.1 hm9 with h1 | h1; (have e3:hd.1=w.heap.size+1:=e2; have:=hnew.out hd h1; omega); (simp at h1; subst h1; have e3:gg=w.heap.size+1:=e2; omega))
   have htw4:=htw3.out.set (.slice (some ⟨gA,0,none⟩) (j+1) capA)
   have hfr9:Fr w (wA.setCell ⟨w.heap.size+1,1,none⟩ (.slice (some ⟨gA,0,none⟩) (j+1) capA)):=hfrA.setCell (p:=⟨w.heap.size+1,1,none⟩) (by simp) _
   go_roundg (gk - 1)
   case measure=>omega
   case rel=>exact ⟨j+1,_,_,by go_num,by omega,hfr9,hZ (by have h7:=hf2.size; have h8:=hgrowA.size; have h9:=hszz; simp at h8; simp; omega),htw4,hpush2,fun h hm9=>by rcases BD.1 hm9 with h1 | h1; exact hnew.out h h1; (simp at h1; subst h1; exact As hsz.out hgb)⟩
  ·have hd:decide (j < tF)=false:=Aa hlt
   obtain rfl:j=tF:=by omega
   obtain ⟨a9,c9,rfl,-⟩:=C9 hgi.own
   have hgl:(g.take j).length=j:=by rw [Av]; omega
   rw [hgl] at hgi b1 htw
   go_wp2_with fail
   have q0:(wr.setCell ⟨w.heap.size,0,none⟩ (.int .i64 n)).cell? ⟨w.heap.size,0,none⟩=some (.int .i64 n):=Al _ _ _ (by rw [a0]; rfl)
   have e1:(⟨w.heap.size,0,none⟩:Addr)≠⟨w.heap.size,1,none⟩:=fun e=>by injection e with _ e; omega
   have q1:((wr.setCell ⟨w.heap.size,0,none⟩ (.int .i64 n)).setCell ⟨w.heap.size,1,none⟩ (.slice a9 j c9)).cell? ⟨w.heap.size,1,none⟩=some (.slice a9 j c9):=Al _ _ _ (by rw [Ad _ _ _ _ e1,a1]; rfl)
   refine AP (v:=.tuple #[.agg #[.int .i64 n,.slice a9 j c9],.int .i64 0]) (by simp [results,Tryz.results91,go_sem,q0,q1]) rfl ⟨a9,c9,by rw [hgl], ?_,(hf.setCell (p:=⟨w.heap.size,0,none⟩) (by simp) _).setCell (p:=⟨w.heap.size,1,none⟩) (by simp) _⟩
   have hfx:Fx (·=w.heap.size) wr ((wr.setCell ⟨w.heap.size,0,none⟩ (.int .i64 n)).setCell ⟨w.heap.size,1,none⟩ (.slice a9 j c9)):=Fx.setCell (p:=(·=w.heap.size)) (q:=⟨w.heap.size,1,none⟩) (Fx.setCell (p:=(·=w.heap.size)) (q:=⟨w.heap.size,0,none⟩) (Fx.refl _ wr) (.inl rfl) _) (.inl rfl) _
   intro W hW
   exact ((hgi.fx hfx (fun b e e2=>by have e3:b=w.heap.size:=e2; have h9:=(hgi.own.lt b e).1; omega) (fun hd hm9 e2=>by have e3:hd.1=w.heap.size:=e2; have:=hnew.out hd hm9; omega)).fx hW (fun b e e2=>by have e3:b < w.heap.size:=e2; have h9:=(hgi.own.lt b e).1; omega) (fun hd hm9 e2=>by have e3:hd.1 < w.heap.size:=e2; have:=hnew.out hd hm9; omega)).mat


theorem OR (w:World):Calls Tryz.prog 89 #[.slice none 0 0] w fun e w'=>e=.returned (.slice none 0 0)∧Fr w w':=by
 go_enter Tryz.func89,Tryz.ntmps89
 go_wp2_with fail
 refine X8 1 ?_
 rw [ZI]
 go_wp2_with fail
 go_ret
 exact ⟨rfl,Fr.refl _⟩
theorem Pa (n:Nat) (w:World) (hn:1≤n) (hn2:n≤1000000):Calls Tryz.prog 90 #[.slice none 0 0,.int .i64 n] w fun e w'=>e=.returned (.slice none 0 0)∧Fr w w':=by
 go_enter Tryz.func90,Tryz.ntmps90
 have d1:(0:Int) < (n:Int):=by omega
 go_wp2_with fail
 refine X8 1 ?_
 rw [ZI]
 go_wp2_with fail
 go_ret
 exact ⟨rfl,Fr.refl _⟩
theorem JA (n:Nat) (w:World):Calls Tryz.prog 91 #[.slice none 0 0,.int .i64 n] w fun e w'=>e=.returned (.tuple #[.agg #[.int .i64 n,.slice none 0 0],.int .i64 0])∧Fr w w':=by
 obtain ⟨W,hW⟩:∃ W,W=((w.alloc (.cells #[.int .i64 0,.slice none 0 0] 76)).alloc (.cells #[.int .i64 n,.slice none 0 0] 76)):=⟨_,rfl⟩
 have hf:Fr w W:=by rw [hW]; exact ((Fr.refl _).alloc _).alloc _
 have htwo:PA W w.heap.size n (.slice none 0 0):=by
  rw [hW]
  have hfr:Fr (w.alloc (.cells #[.int .i64 0,.slice none 0 0] 76)) ((w.alloc (.cells #[.int .i64 0,.slice none 0 0] 76)).alloc (.cells #[.int .i64 n,.slice none 0 0] 76)):=(Fr.refl _).alloc _
  have p1:=CC w (.int .i64 0) (.slice none 0 0) 76
  have p2:=Ct w (.int .i64 0) (.slice none 0 0) 76
  have p3:=CC (w.alloc (.cells #[.int .i64 0,.slice none 0 0] 76)) (.int .i64 n) (.slice none 0 0) 76
  have p4:=Ct (w.alloc (.cells #[.int .i64 0,.slice none 0 0] 76)) (.int .i64 n) (.slice none 0 0) 76
  rw [AF] at p3 p4
  exact ⟨⟨_,hfr.keep p1.1⟩,⟨_,hfr.keep p2.1⟩,hfr.keepf p1.1 p1.2,hfr.keepf p2.1 p2.2,p3.1,p4.1,p3.2,p4.2⟩
 obtain ⟨⟨x0,a0⟩,⟨x1,a1⟩,fa0,fa1,b0,b1,fb0,fb1⟩:=htwo
 go_enter Tryz.func91,Tryz.ntmps91
 go_wp2_with fail
 rw [← hW]
 clear hW
 refine X8 1 ?_
 rw [ZI]
 have a0h:=hZ a0
 have a1h:=hZ a1
 go_wp2_with fail
 have q0:(W.setCell ⟨w.heap.size,0,none⟩ (.int .i64 n)).cell? ⟨w.heap.size,0,none⟩=some (.int .i64 n):=Al _ _ _ (by rw [a0h.out]; rfl)
 have e1:(⟨w.heap.size,0,none⟩:Addr)≠⟨w.heap.size,1,none⟩:=fun e=>by injection e with _ e; omega
 have q1:((W.setCell ⟨w.heap.size,0,none⟩ (.int .i64 n)).setCell ⟨w.heap.size,1,none⟩ (.slice none 0 0)).cell? ⟨w.heap.size,1,none⟩=some (.slice none 0 0):=Al _ _ _ (by rw [Ad _ _ _ _ e1,a1h.out]; rfl)
 exact AP (v:=.tuple #[.agg #[.int .i64 n,.slice none 0 0],.int .i64 0]) (by simp [results,Tryz.results91,go_sem,q0,q1]) rfl ⟨rfl,(hf.setCell (p:=⟨w.heap.size,0,none⟩) (by simp) _).setCell (p:=⟨w.heap.size,1,none⟩) (by simp) _⟩
theorem X3 (n:Nat) (w:World) (hn:1≤n) (hn2:n≤12):Calls Tryz.prog 48 #[.int .i64 n,.slice none 0 0] w fun e w'=>e=.returned (.tuple #[.agg #[.int .i64 n,.slice none 0 0],.int .i64 0])∧Fr w w':=by
 have hchk:=fun W=>HE [] none 0 n W (.inl rfl) (fun r hr=>by simp at hr) (by simp) (fun r hr=>by simp at hr) hn2
 simp only [DC] at hchk
 have hl:=fun W=>OR W
 have hf:=fun W=>Pa n W hn (by omega)
 have hs:=fun W=>JA n W
 replace hchk:=hZ hchk
 replace hl:=hZ hl
 replace hf:=hZ hf
 replace hs:=hZ hs
 have hfA:Fr w (w.alloc (.cells #[.int .i64 0,.slice none 0 0] 76)):=(Fr.refl w).alloc _
 replace hfA:=hZ hfA
 go_enter Tryz.func48,Tryz.ntmps48
 go_wp2_with fail
 refine (hchk.out _).mono ?_
 rintro e w1 ⟨rfl,hf1⟩
 go_wp2_with fail
 refine (hl.out _).mono ?_
 rintro e w2 ⟨rfl,hf2⟩
 go_wp2_with fail
 refine (hf.out _).mono ?_
 rintro e w3 ⟨rfl,hf3⟩
 go_wp2_with fail
 refine (hs.out _).mono ?_
 rintro e w4 ⟨rfl,hf4⟩
 have hfr3:=((hf1.trans hf2).trans hf3).trans hf4
 have hfw:=hZ (hfA.out.trans hfr3)
 have p1:=CC w (.int .i64 0) (.slice none 0 0) 76
 have p2:=Ct w (.int .i64 0) (.slice none 0 0) 76
 have c1:=hfr3.keep p1.1
 have c2:=hfr3.keep p2.1
 have c3:=hfr3.keepf p1.1 p1.2
 have c5:=hfr3.keepf p2.1 p2.2
 clear p1 p2
 have c1h:=hZ c1
 have c2h:=hZ c2
 go_wp2_with fail
 have e1:(⟨w.heap.size,0,none⟩:Addr)≠⟨w.heap.size,1,none⟩:=fun e=>by injection e with _ e; omega
 have q0:(w4.setCell ⟨w.heap.size,0,none⟩ (.int .i64 n)).cell? ⟨w.heap.size,0,none⟩=some (.int .i64 n):=Al _ _ _ (by rw [c1h.out]; rfl)
 have q1:((w4.setCell ⟨w.heap.size,0,none⟩ (.int .i64 n)).setCell ⟨w.heap.size,1,none⟩ (.slice none 0 0)).cell? ⟨w.heap.size,1,none⟩=some (.slice none 0 0):=Al _ _ _ (by rw [Ad _ _ _ _ e1,c2h.out]; rfl)
 exact AP (v:=.tuple #[.agg #[.int .i64 n,.slice none 0 0],.int .i64 0]) (by simp [results,Tryz.results48,go_sem,q0,q1]) rfl ⟨rfl,(hfw.out.setCell (p:=⟨w.heap.size,0,none⟩) (by simp) _).setCell (p:=⟨w.heap.size,1,none⟩) (by simp) _⟩
def digs (n:Nat):List Int:=if h:n=0 then [] else ((n % 1000000000:Nat):Int) :: digs (n / 1000000000)
termination_by n
decreasing_by omega
def Dg (l:List Int):Prop:=∀ d,d ∈ l→0≤d∧d < 1000000000
def val:List Int→Int
 | []=>0
 | d :: l=>d+1000000000 * val l
theorem Bw:digs 0=[]:=by rw [digs]; rfl
theorem Cd {n:Nat} (h:0 < n):digs n=((n % 1000000000:Nat):Int) :: digs (n / 1000000000):=by rw [digs,dif_neg (by omega)]
theorem Pk {n:Nat} (h:0 < n) (h2:n < 1000000000):digs n=[(n:Int)]:=by
 rw [Cd h,CH h2,Hd h2,Bw]
theorem Dv {n:Nat}:digs n=[] ↔ n=0:=by
 constructor
 ·intro h
  by_cases h0:n=0
  ·exact h0
  ·rw [Cd (by omega)] at h; exact absurd h (by simp)
 ·rintro rfl; exact Bw
theorem BK:∀ n,Dg (digs n):=fun n=>by
 induction n using Nat.strongRecOn with
 | _ n ih=>
   by_cases h:n=0
   ·subst h; rw [Bw]; intro d hd; simp at hd
   ·rw [Cd (by omega)]
    intro d hd
    rcases Bu.1 hd with rfl | hd
    ·omega
    ·exact ih _ (by omega) d hd
theorem B4:∀ n:Nat,val (digs n)=n:=fun n=>by
 induction n using Nat.strongRecOn with
 | _ n ih=>
   by_cases h:n=0
   ·subst h; rw [Bw]; rfl
   ·rw [Cd (by omega)]
    show ((n % 1000000000:Nat):Int)+1000000000 * val (digs (n / 1000000000))=n
    rw [ih _ (by omega)]
    omega
theorem Pl {n m:Nat} (h:digs n=digs m):n=m:=by
 have:=B4 n; rw [h,B4] at this; omega
theorem Ed:∀ (k n:Nat),n < 1000000000 ^ k→(digs n).length≤k
 | 0,n,h=>by have:n=0:=by simpa using h
             subst this; rw [Bw]; simp
 | k+1,n,h=>by
   by_cases h0:n=0
   ·subst h0; rw [Bw]; simp
   ·rw [Cd (by omega)]
    have:=Ed k (n / 1000000000) (by rw [Cb (by decide)]; rw [Br] at h; exact h)
    simp; omega
theorem Dg.cons {d:Int} {l:List Int} (h:Dg (d :: l)):(0≤d∧d < 1000000000)∧Dg l:=⟨h d (by simp),fun x hx=>h x (by simp [hx])⟩
theorem Dg.mk {d:Int} {l:List Int} (h:0≤d∧d < 1000000000) (k:Dg l):Dg (d :: l):=fun x hx=>by
 rcases Bu.1 hx with rfl | hx
 ·exact h
 ·exact k x hx
theorem Iq:∀ {l:List Int},Dg l→0≤val l
 | [],_=>by show (0:Int)≤0; omega
 | d :: l,h=>by
   have h1:=h.cons
   have:=Iq h1.2
   show 0≤d+1000000000 * val l
   omega
def BA:List Int→List Int
 | []=>[]
 | d :: l=>if BA l=[]∧d=0 then [] else d :: BA l
theorem M1 (x:Nat):(if digs (x / 1000000000)=[]∧((x % 1000000000:Nat):Int)=0 then [] else ((x % 1000000000:Nat):Int) :: digs (x / 1000000000))=digs x:=by
 by_cases h:x=0
 ·subst h; rw [Ai ⟨by show digs 0=[]; exact Bw,by simp⟩,Bw]
 ·rw [Cd (n:=x) (by omega),Ag]
  rintro ⟨h1,h2⟩
  rw [Dv] at h1
  omega
theorem Dp:∀ {l:List Int},Dg l→BA l=digs (val l).toNat
 | [],_=>by show []=digs 0; rw [Bw]
 | d :: l,h=>by
   have h1:=h.cons
   have h2:=Iq h1.2
   show (if BA l=[]∧d=0 then [] else d :: BA l)=digs (d+1000000000 * val l).toNat
   rw [Dp h1.2,← M1 (d+1000000000 * val l).toNat,show (d+1000000000 * val l).toNat / 1000000000=(val l).toNat by omega,show (((d+1000000000 * val l).toNat % 1000000000:Nat):Int)=d by omega]
theorem EM (n:Nat):BA (digs n)=digs n:=by rw [Dp (BK n),B4]; rfl
theorem KX:∀ l:List Int,BA (l ++ [0])=BA l
 | []=>rfl
 | d :: l=>by
   show (if BA (l ++ [0])=[]∧d=0 then [] else d :: BA (l ++ [0]))=_
   rw [KX l]; rfl
theorem KY {d:Int} (hd:d≠0):∀ l:List Int,BA (l ++ [d])=l ++ [d]
 | []=>by show (if BA []=[]∧d=0 then [] else d :: BA [])=_; rw [Ag (fun h=>hd h.2)]; rfl
 | x :: l=>by
   show (if BA (l ++ [d])=[]∧x=0 then [] else x :: BA (l ++ [d]))=_
   rw [KY hd l,Ag (fun h=>by simp at h)]; rfl
def CW:List Int→List Int→Int→List Int
 | a :: az,b :: bs,c=>((c+a+b) % 1000000000) :: CW az bs ((c+a+b) / 1000000000)
 | a :: az,[],c=>((c+a) % 1000000000) :: CW az [] ((c+a) / 1000000000)
 | [],b :: bs,c=>((c+b) % 1000000000) :: CW [] bs ((c+b) / 1000000000)
 | [],[],c=>if 0 < c then [c] else []
theorem OD (a b c:Int) (az bs:List Int):CW (a :: az) (b :: bs) c=((c+a+b) % 1000000000) :: CW az bs ((c+a+b) / 1000000000):=by rw [CW]
theorem OC (a c:Int) (az:List Int):CW (a :: az) [] c=((c+a) % 1000000000) :: CW az [] ((c+a) / 1000000000):=by rw [CW]
theorem OB (b c:Int) (bs:List Int):CW [] (b :: bs) c=((c+b) % 1000000000) :: CW [] bs ((c+b) / 1000000000):=by rw [CW]
theorem Hx (c:Int):CW [] [] c=if 0 < c then [c] else []:=by rw [CW]
theorem Qi:∀ (s n m:Nat) (c:Nat),n+m≤s→c≤1→CW (digs n) (digs m) c=digs (n+m+c):=fun s=>by
 induction s using Nat.strongRecOn with
 | _ s ih=>
   intro n m c hs hc
   by_cases hn:n=0
   ·subst hn
    by_cases hm:m=0
    ·subst hm
     rw [Bw]
     rcases (show c=0∨c=1 by omega) with rfl | rfl
     ·rw [show (0+0+0:Nat)=0 from rfl,Bw,Hx]; rfl
     ·rw [show (0+0+1:Nat)=1 from rfl,Pk (by decide) (by decide),Hx]; rfl
    ·rw [Bw,Cd (n:=m) (by omega),Cd (n:=0+m+c) (by omega)]
     rw [OB]
     have e:=ih (m / 1000000000) (by omega) 0 (m / 1000000000) ((c+m % 1000000000) / 1000000000) (by omega) (by omega)
     rw [Bw] at e
     rw [show ((c:Int)+((m % 1000000000:Nat):Int)) / 1000000000=(((c+m % 1000000000) / 1000000000:Nat):Int) by omega,e]
     congr 1
     ·omega
     ·congr 1; omega
   ·by_cases hm:m=0
    ·subst hm
     rw [Bw,Cd (n:=n) (by omega),Cd (n:=n+0+c) (by omega)]
     rw [OC]
     have e:=ih (n / 1000000000) (by omega) (n / 1000000000) 0 ((c+n % 1000000000) / 1000000000) (by omega) (by omega)
     rw [Bw] at e
     rw [show ((c:Int)+((n % 1000000000:Nat):Int)) / 1000000000=(((c+n % 1000000000) / 1000000000:Nat):Int) by omega,e]
     congr 1
     ·omega
     ·congr 1; omega
    ·rw [Cd (n:=n) (by omega),Cd (n:=m) (by omega),Cd (n:=n+m+c) (by omega)]
     rw [OD]
     have e:=ih (n / 1000000000+m / 1000000000) (by omega) (n / 1000000000) (m / 1000000000) ((c+n % 1000000000+m % 1000000000) / 1000000000) (by omega) (by omega)
     rw [show ((c:Int)+((n % 1000000000:Nat):Int)+((m % 1000000000:Nat):Int)) / 1000000000=(((c+n % 1000000000+m % 1000000000) / 1000000000:Nat):Int) by omega,e]
     congr 1
     ·omega
     ·congr 1; omega
def Hi (d:Int):Int:=if d < 0 then d+1000000000 else d
def FA (d:Int):Int:=if d < 0 then 1 else 0
def CN:List Int→List Int→Int→List Int
 | a :: az,b :: bs,w=>Hi (a - w - b) :: CN az bs (FA (a - w - b))
 | a :: az,[],w=>Hi (a - w) :: CN az [] (FA (a - w))
 | [],_,_=>[]
theorem MO (a b w:Int) (az bs:List Int):CN (a :: az) (b :: bs) w=Hi (a - w - b) :: CN az bs (FA (a - w - b)):=by rw [CN]
theorem MN (a w:Int) (az:List Int):CN (a :: az) [] w=Hi (a - w) :: CN az [] (FA (a - w)):=by rw [CN]
theorem OO (b:List Int) (w:Int):CN [] b w=[]:=by rw [CN]
theorem HB:∀ (n m w:Nat),m+w≤n→w≤1→BA (CN (digs n) (digs m) w)=digs (n - m - w):=fun n=>by
 induction n using Nat.strongRecOn with
 | _ n ih=>
   intro m w hs hw
   by_cases hn:n=0
   ·subst hn
    obtain rfl:m=0:=by omega
    obtain rfl:w=0:=by omega
    rw [Bw,OO]; rfl
   ·have key:∀ (d:Int) (r:List Int) (v:Nat),d=(n:Int) % 1000000000 - w - (m:Int) % 1000000000→FA d=v→BA r=digs (n / 1000000000 - m / 1000000000 - v)→BA (Hi d :: r)=digs (n - m - w):=fun d r v hd hv hr=>by
     show (if BA r=[]∧Hi d=0 then [] else Hi d :: BA r)=_
     rw [hr,← M1 (n - m - w)]
     unfold FA at hv
     unfold Hi
     by_cases h0:d < 0
     ·rw [Ai h0] at hv ⊢
      rw [show (n - m - w) / 1000000000=n / 1000000000 - m / 1000000000 - v by omega,show (((n - m - w) % 1000000000:Nat):Int)=d+1000000000 by omega]
     ·rw [Ag h0] at hv ⊢
      rw [show (n - m - w) / 1000000000=n / 1000000000 - m / 1000000000 - v by omega,show (((n - m - w) % 1000000000:Nat):Int)=d by omega]
    by_cases hm:m=0
    ·subst hm
     rw [Bw,Cd (n:=n) (by omega)]
     rw [MN]
     obtain ⟨v,hv⟩:∃ v:Nat,FA (((n % 1000000000:Nat):Int) - w)=v:=⟨(FA (((n % 1000000000:Nat):Int) - w)).toNat,by unfold FA; split <;> rfl⟩
     have hv2:=hv
     unfold FA at hv2
     rw [hv]
     refine key _ _ v (by omega) hv ?_
     have e:=ih (n / 1000000000) (by omega) 0 v (by split at hv2 <;> omega) (by split at hv2 <;> omega)
     rw [Bw] at e
     rw [e]
    ·rw [Cd (n:=n) (by omega),Cd (n:=m) (by omega)]
     rw [MO]
     obtain ⟨v,hv⟩:∃ v:Nat,FA (((n % 1000000000:Nat):Int) - w - ((m % 1000000000:Nat):Int))=v:=⟨(FA (((n % 1000000000:Nat):Int) - w - ((m % 1000000000:Nat):Int))).toNat,by unfold FA; split <;> rfl⟩
     have hv2:=hv
     unfold FA at hv2
     rw [hv]
     refine key _ _ v (by omega) hv ?_
     exact ih (n / 1000000000) (by omega) (m / 1000000000) v (by split at hv2 <;> omega) (by split at hv2 <;> omega)
theorem Gy:∀ (n m:Nat),(digs n).length < (digs m).length→n < m:=fun n=>by
 induction n using Nat.strongRecOn with
 | _ n ih=>
   intro m h
   by_cases hm:m=0
   ·subst hm; rw [Bw] at h; simp at h
   ·by_cases hn:n=0
    ·omega
    ·rw [Cd (n:=n) (by omega),Cd (n:=m) (by omega)] at h
     have:=ih (n / 1000000000) (by omega) (m / 1000000000) (by simpa using h)
     omega
theorem Ho:∀ (i:Nat) (a b:List Int),Dg a→Dg b→a.length=b.length→(∀ x y,a[i]?=some x→b[i]?=some y→x < y)→i < a.length→a.drop (i+1)=b.drop (i+1)→val a < val b
 | 0,x :: a,y :: b,ha,hb,_,h,_,hd=>by
   have h1:=h x y rfl rfl
   have h2:a=b:=by simpa using hd
   subst h2
   show x+_ < y+_
   omega
 | i+1,x :: a,y :: b,ha,hb,hl,h,hi,hd=>by
   have:=Ho i a b ha.cons.2 hb.cons.2 (by simpa using hl) (fun u v hu hv=>h u v (by simpa using hu) (by simpa using hv)) (by simpa using hi) (by simpa using hd)
   have h1:=ha.cons.1
   have h2:=hb.cons.1
   show x+1000000000 * val a < y+1000000000 * val b
   omega
 | _,[],_,_,_,_,_,hi,_=>by simp at hi
 | _,_ :: _,[],_,_,hl,_,_,_=>by simp at hl
def Ej (n m:Nat):Int:=if n < m then -1 else if m < n then 1 else 0
def Fu:List (Value×Value)→List Value
 | []=>[]
 | x :: l=>x.1 :: x.2 :: Fu l
theorem NQ (l:List (Value×Value)):(Fu l).length=l.length * 2:=by
 induction l with
 | nil=>rfl
 | cons x l ih=>simp [Fu,ih]; omega
theorem NR (l m:List (Value×Value)):Fu (l ++ m)=Fu l ++ Fu m:=by
 induction l with
 | nil=>rfl
 | cons x l ih=>simp [Fu,ih]
theorem MW:∀ (l:List (Value×Value)) (i:Nat) (x:Value×Value),l[i]?=some x→(Fu l)[i * 2]?=some x.1∧(Fu l)[i * 2+1]?=some x.2
 | [],i,x,h=>by simp at h
 | y :: l,0,x,h=>by simp at h; subst h; simp [Fu]
 | y :: l,i+1,x,h=>by
   have:=MW l i x (by simpa using h)
   have e:(i+1) * 2=i * 2+1+1:=by omega
   rw [e]
   simpa [Fu] using this
theorem Kd {w:World} {base:Nat} {e:TypeId} {g n m cap:Nat} {xs:List (Value×Value)} (h:w.ownsRow base e 2 (.slice (some ⟨g,0,none⟩) n cap) m (Fu xs)):WJ w (some ⟨g,0,none⟩) xs∧n=m∧m=xs.length∧base≤g∧n≤cap∧g < w.heap.size:=by
 have h1:=h.1
 obtain ⟨a,b,c,d,f⟩:=Bo h
 refine ⟨.inr ⟨g,0,rfl,c,fun i x hx=>?_⟩,a,by rw [NQ] at h1; omega,b,d,c⟩
 have:=MW xs i x hx
 rw [AN]
 exact ⟨(f _ _ this.1).1,(f _ _ this.2).1⟩

def Ef (w:World):List Obj→World
 | []=>w
 | o :: l=>Ef (w.alloc o) l
theorem Px:∀ (l:List Obj) (w:World) (k:Nat),k < w.heap.size→(Ef w l).heap[k]?=w.heap[k]?
 | [],w,k,_=>rfl
 | o :: l,w,k,h=>by rw [Ef,Px l _ k (by simp; omega)]; exact Below.heap_alloc _ _ _ h
theorem Cu:∀ (l:List Obj) (w:World) (i:Nat) (o:Obj),l[i]?=some o→(Ef w l).heap[w.heap.size+i]?=some o
 | [],w,i,o,h=>by simp at h
 | x :: l,w,0,o,h=>by
   simp at h; subst h
   rw [Ef,DG,Px l _ _ (by simp)]
   exact CB w _
 | x :: l,w,i+1,o,h=>by
   have:=Cu l (w.alloc x) i o (by simpa using h)
   rw [AF] at this
   rw [Ef,show w.heap.size+(i+1)=w.heap.size+1+i by omega]
   exact this
theorem EG:∀ (l:List Obj) (w:World),Fr w (Ef w l)
 | [],w=>Fr.refl w
 | o :: l,w=>((Fr.refl w).alloc o).trans (EG l (w.alloc o))
theorem A1 {W:World} {b:Nat} {cs:Array Value} {t:TypeId} (h:W.heap[b]?=some (.cells cs t (0,0))) (i:Nat):W.cell? ⟨b,i,none⟩=cs[i]?:=by
 unfold World.cell?; rw [h]; rfl
theorem Ll {W:World} {b:Nat} {o:Obj} (h:W.heap[b]?=some o):b < W.heap.size:=(A8.1 h).1
theorem Cq (wr:World) (r:Nat) (u v u0 v0:Value) (h0:wr.cell? ⟨r,0,none⟩=some u0) (h1:wr.cell? ⟨r,1,none⟩=some v0) :
 ((wr.setCell ⟨r,0,none⟩ u).setCell ⟨r,1,none⟩ v).cell? ⟨r,0,none⟩=some u∧((wr.setCell ⟨r,0,none⟩ u).setCell ⟨r,1,none⟩ v).cell? ⟨r,1,none⟩=some v ∧
   (wr.setCell ⟨r,0,none⟩ u).cell? ⟨r,1,none⟩=some v0∧Fx (·=r) wr ((wr.setCell ⟨r,0,none⟩ u).setCell ⟨r,1,none⟩ v):=by
 have e1:(⟨r,0,none⟩:Addr)≠⟨r,1,none⟩:=fun e=>by injection e with _ e; omega
 refine ⟨?_, ?_, ?_,Fx.setCell (p:=(·=r)) (q:=⟨r,1,none⟩) (Fx.setCell (p:=(·=r)) (q:=⟨r,0,none⟩) (Fx.refl _ _) (.inl rfl) u) (.inl rfl) v⟩
 ·rw [Ad _ _ _ _ (fun e=>e1 e.symm)]; exact Al _ _ _ (by rw [h0]; rfl)
 ·exact Al _ _ _ (by rw [Ad _ _ _ _ e1,h1]; rfl)
 ·rw [Ad _ _ _ _ e1]; exact h1
theorem El.take {w:World} {a:Option Addr} {xs:List Int} (h:El w iv a xs) (k:Nat):El w iv a (xs.take k):=by
 rcases h with h | ⟨b,o,ha,hb,hc⟩
 ·exact .inl (by rw [h]; simp)
 ·refine .inr ⟨b,o,ha,hb,fun i x hx=>hc i x ?_⟩
  rw [Bp] at hx
  split at hx
  ·exact hx
  ·cases hx
theorem Ir {l:List Int} {k:Nat} {d:Int} (h:l[k]?=some d) (hd:d=0):BA (l.take (k+1))=BA (l.take k):=by
 rw [BN h,hd]; exact KX _
theorem Is {l:List Int} {k:Nat} {d:Int} (h:l[k]?=some d) (hd:d≠0):BA (l.take (k+1))=l.take (k+1):=by
 rw [BN h]; exact KY hd _

theorem Gt {w:World} {base:Nat} {v:Value} {l:List Int} (h:w.ownsRow base 3 1 v l.length (l.map iv)):∃ a c,v=.slice a l.length c∧El w iv a l∧l.length≤c∧∀ ad,a=some ad→base≤ad.block:=by
 rcases h.2 with ⟨h1,h2⟩ | ⟨g,cap,cur,hv,_⟩
 ·have:=Bf h2
  subst this
  exact ⟨none,0,h1,.inl rfl,Ah _,fun ad e=>by cases e⟩
 ·subst hv
  obtain ⟨-,h1,h2,h3,h4⟩:=Bo h
  refine ⟨_,_,rfl,.inr ⟨g,0,rfl,h2,fun i x hx=>?_⟩,h3,fun ad e=>by injection e with e; subst e; exact h1⟩
  rw [AN]
  exact (h4 i (iv x) (by rw [At,hx]; rfl)).1
theorem CD {l:List Int} {j:Nat} {x:Int} (h:l[j]?=some x):l.drop j=x :: l.drop (j+1):=by
 obtain ⟨h1,rfl⟩:=Ae.1 h
 exact Dx h1

theorem IR {n m:Nat} (h:n < m):Ej n m=-1:=by unfold Ej; rw [Ai h]
theorem KE {n m:Nat} (h:m < n):Ej n m=1:=by unfold Ej; rw [Ag (by omega),Ai h]
theorem Rb (n:Nat):Ej n n=0:=by unfold Ej; rw [Ag (by omega),Ag (by omega)]
end Go.Proofs.YtiniigadkknboaaGreatDoor
