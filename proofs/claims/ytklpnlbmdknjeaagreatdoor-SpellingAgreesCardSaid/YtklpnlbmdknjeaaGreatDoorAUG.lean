/- Contracts and laws: AUG. -/
import Derived.Test.YtklpnlbmdknjeaaGreatDoorAL
import Derived.Test.YtklpnlbmdknjeaaGreatDoorAF
import Derived.Lib.SliceRun
import Derived.Test.YtklpnlbmdknjeaaGreatDoorAPM
import Derived.Test.YtklpnlbmdknjeaaGreatDoorAUG0

set_option maxRecDepth 100000
set_option maxHeartbeats 2000000
namespace Go.Proofs.YtklpnlbmdknjeaaGreatDoor
open Go.RowKit Go.Lib
attribute [local go_sem ↓] Go.wp_at_zero Go.wp_at_succ
theorem longsOf_z (a:Option Addr) (c:Nat) (w:World):Calls Tryz.prog 61 #[.slice a 0 c] w fun e w'=>e=.returned (.slice none 0 0)∧Fr w w':=by
 go_enter Tryz.func61,Tryz.ntmps61
 go_wp2_with fail
 refine wp_loop_rounds 1 ?_
 rw [rounds_succ]
 go_wp2_with fail
 go_ret
 exact ⟨rfl,Fr.refl _⟩
theorem form_n (n:Nat) (w:World):Calls Tryz.prog 62 #[.slice none 0 0,.int .i64 n] w fun e w'=>e=.returned (.slice none 0 0)∧Fr w w':=by
 go_enter Tryz.func62,Tryz.ntmps62
 go_wp2_with fail
 refine wp_loop_rounds 1 ?_
 rw [rounds_succ]
 go_wp2_with fail
 all_goals
  go_ret
  exact ⟨rfl,Fr.refl _⟩
theorem Of_n (n:Nat) (hn:n≤12) (a:Option Addr) (c:Nat) (w:World):Calls Tryz.prog 25 #[.int .i64 n,.slice a 0 c] w (LatRetC w n []):=by
 have hchk:=fun W=>latCheck_ok [] a c n W (.inl rfl) (fun r hr=>by simp at hr) (by simp) (fun r hr=>by simp at hr) hn
 simp only [List.length_nil] at hchk
 have hl:=fun W=>longsOf_z a c W
 have hf:=fun W=>form_n n W
 have hs:=fun W=>short_nil n W
 replace hchk:=hZ hchk
 replace hl:=hZ hl
 replace hf:=hZ hf
 replace hs:=hZ hs
 have hfA:Fr w (w.alloc (.cells #[.int .i64 0,.slice none 0 0] 73)):=(Fr.refl w).alloc _
 replace hfA:=hZ hfA
 go_enter Tryz.func25,Tryz.ntmps25
 go_wp2_with fail
 refine (hchk.out _).mono ?_
 rintro e w1 ⟨rfl,hf1⟩
 go_wp2_with fail
 refine (hl.out _).mono ?_
 rintro e w2 ⟨rfl,hf2⟩
 go_wp2_with fail
 refine (hf.out _).mono ?_
 rintro e w3 ⟨rfl,hf3⟩
 go_wp2_with fail
 refine (hs.out _).mono ?_
 rintro e w4 ⟨rfl,hf4⟩
 have hfr3:=((hf1.trans hf2).trans hf3).trans hf4
 have hfw:=hZ (hfA.out.trans hfr3)
 have p1:=new2a w (.int .i64 0) (.slice none 0 0) 73
 have p2:=new2b w (.int .i64 0) (.slice none 0 0) 73
 have c1:=hfr3.keep p1.1
 have c2:=hfr3.keep p2.1
 have c3:=hfr3.keepf p1.1 p1.2
 have c5:=hfr3.keepf p2.1 p2.2
 clear p1 p2
 have c1h:=hZ c1
 have c2h:=hZ c2
 go_wp2_with fail
 have e1:(⟨w.heap.size,0,none⟩:Addr)≠⟨w.heap.size,1,none⟩:=fun e=>by injection e with _ e; omega
 have q0:(w4.setCell ⟨w.heap.size,0,none⟩ (.int .i64 n)).cell? ⟨w.heap.size,0,none⟩=some (.int .i64 n):=World.cell?_setCell_same' _ _ _ (by rw [c1h.out]; rfl)
 have q1:((w4.setCell ⟨w.heap.size,0,none⟩ (.int .i64 n)).setCell ⟨w.heap.size,1,none⟩ (.slice none 0 0)).cell? ⟨w.heap.size,1,none⟩=some (.slice none 0 0):=World.cell?_setCell_same' _ _ _ (by rw [World.cell?_setCell_other _ _ _ _ e1,c2h.out]; rfl)
 exact bodyPost_ret (v:=.tuple #[.agg #[.int .i64 n,.slice none 0 0],.int .i64 0]) (by simp [results,Tryz.results25,go_sem,q0,q1]) rfl ⟨none,0,rfl,Nat.le_refl _,fun W hW=>.inl rfl,(hfw.out.setCell (p:=⟨w.heap.size,0,none⟩) (by simp) _).setCell (p:=⟨w.heap.size,1,none⟩) (by simp) _⟩
theorem Of_z (a:Option Addr) (c:Nat) (w:World):Calls Tryz.prog 25 #[.int .i64 0,.slice a 0 c] w (LatRetC w 0 []):=Of_n 0 (by omega) a c w
theorem lines_z (a:Option Addr) (c:Nat) (w:World):Calls Tryz.prog 129 #[.slice a 0 c] w fun e w'=>e=.returned (.slice none 0 0)∧Fr w w':=by
 go_enter Tryz.func129,Tryz.ntmps129
 go_wp2_with fail
 refine wp_loop_rounds 1 ?_
 rw [rounds_succ]
 go_wp2_with fail
 go_ret
 exact ⟨rfl,Fr.refl _⟩
theorem hsmall_z (a:Option Addr) (c:Nat) (w:World) (hG:G w):Calls Tryz.prog 94 #[.slice a 0 c] w fun e w'=>∃ b c2,e=.returned (.tuple #[.slice b 0 c2,.int .i64 0])∧Fr w w':=by
 have hgn:=gN_le hG
 obtain ⟨i1,ji,jz0,jz1,jz2⟩:=info_parts infoInt
 go_enter Tryz.func94,Tryz.ntmps94
 go_wp2_with (at_make; refine wpList_make_own _ rfl _ _ 44 rfl w.heap.size 3 i1 _ 1 Tryz.underlying44 ji jz0 jz1 _ _ _ 0 (by rfl) (by rfl) (by omega) (by rw [jz2]; omega) (by unfold maxLen; omega) (Nat.le_refl _) ?_; intro w2 hown2 hgr2)
 have hf2:Fr w w2:=(Fr.refl w).grown hgr2 (fun k e=>by cases e)
 refine wp_loop_rounds 1 ?_
 rw [rounds_succ]
 go_wp2_with fail
 go_ret2
 exact ⟨_,_,rfl,hf2⟩
theorem hopen_z (a b:Option Addr) (c cb:Nat) (w:World):Calls Tryz.prog 34 #[.slice a 0 c,.slice b 0 cb] w fun e w'=>e=.returned (.int .i64 0)∧Fr w w':=by
 have h1:=hZ (IsForm_ok [] a c 0 w (.inl rfl) ⟨by simp,by omega,(fun r hr=>by cases hr),(fun r hr=>by cases hr)⟩ (Nat.zero_le _) rfl)
 have h2:=hZ (fun W=>Check_row [] b cb W (.inl rfl) (by simp))
 have h0:rowE []=0:=rfl
 rw [h0] at h2
 go_enter Tryz.func34,Tryz.ntmps34
 go_wp2_with fail
 refine h1.out.mono ?_
 rintro e w1 ⟨rfl,hf1⟩
 go_wp2_with fail
 refine (h2.out _).mono ?_
 rintro e w2 ⟨rfl,hf2⟩
 go_wp2_with fail
 go_ret
 exact ⟨rfl,hf1.trans hf2⟩
theorem lines_one (P c:Nat) (a:Option Addr) (ca:Nat) (w:World) (hG:G w) (hP:w.cell? ⟨P,0,none⟩=some (.slice a 0 ca)):Calls Tryz.prog 129 #[.slice (some ⟨P,0,none⟩) 1 c] w fun e w'=>∃ g c2 g2 cg,e=.returned (.slice (some ⟨g,0,none⟩) 1 c2)∧w'.cell? ⟨g,0,none⟩=some (.slice none 0 0)∧w'.cell? ⟨g,1,none⟩=some (.slice (some ⟨g2,0,none⟩) 1 cg)∧Fr w w':=by
 have hgn:=gN_le hG
 obtain ⟨i1,ji,jz0,jz1,jz2⟩:=info_parts infoLine
 have hrep:=hZ (fun (W:World) (h:W.cell? ⟨w.heap.size,0,none⟩=some (sv 0))=>Repeat_one w.heap.size 0 1 1 0 W (by omega) (by omega) h)
 have hs0:(sv 0)=.string ⟨#[48]⟩:=by unfold sv; rw [tx_zero]
 have c0:(w.alloc (.cells #[.string ⟨#[48]⟩] 42)).cell? ⟨w.heap.size,0,none⟩=some (sv 0):=by rw [hs0]; exact new_cell _ _ _
 have f0:Fr w (w.alloc (.cells #[.string ⟨#[48]⟩] 42)):=(Fr.refl _).alloc _
 go_enter Tryz.func129,Tryz.ntmps129
 go_wp2_with fail
 refine wp_loop_rounds 2 ?_
 rw [rounds_succ]
 go_wp2_with fail
 refine (hrep.out _ c0).mono ?_
 rintro e w2 ⟨g,cg,rfl,hf2,hown2⟩
 have f2:=f0.trans hf2
 rw [World.size_alloc] at hown2
 clear c0 f0 hrep
 obtain ⟨W3,hW3⟩:∃ W3,W3=w2.alloc (.cells #[.slice none 0 0,.slice (some ⟨g,0,none⟩) 1 cg] 208):=⟨_,rfl⟩
 have f3':Fr w2 W3:=by rw [hW3]; exact (Fr.refl _).alloc _
 obtain ⟨lb,hlb⟩:∃ lb,lb=w2.heap.size:=⟨_,rfl⟩
 have hC3:Cel2 W3 lb (.slice none 0 0) (.slice (some ⟨g,0,none⟩) 1 cg):=by rw [hW3,hlb]; exact Cel2.new _ _ _ _
 have hown3:=ownsRow_fr hown2 f3'
 have f3:=f2.trans f3'
 have hgl:g < lb:=by rw [hlb]; exact (hown2.lt g rfl).2
 have hgw:w.heap.size≤g:=by have:=(hown2.lt g rfl).1; omega
 have n1:=hC3.b
 have n2:W3.cell? ⟨g,0,none⟩=some (sv 0):=by
  rw [hown3.cellAt 0 (by omega)]; rfl
 have n3:=hown3.frozenAt 0
 go_upto_region 6 with (fail)
 rw [← hW3,← hlb]
 clear hW3 hown2 hown3 f2 f3' hf2
 replace hlb:=hZ hlb
 obtain ⟨W4,hW4⟩:∃ W4,W4=W3.setCell ⟨g,0,none⟩ (.string ⟨#[49]⟩):=⟨_,rfl⟩
 have fx4:Fx (·=g) W3 W4:=by rw [hW4]; exact Fx.setCell (p:=(·=g)) (q:=⟨g,0,none⟩) (Fx.refl _ _) (.inl rfl) _
 have f4:Fr w W4:=by rw [hW4]; exact f3.setCell (p:=⟨g,0,none⟩) (by show _≤g; omega) _
 have hC4:=hZ (hC3.fx fx4 (fun e=>by have e:lb=g:=e; omega))
 go_upto_region 7 with (fail)
 rw [← hW4]
 clear hW4 n1 n2 n3 fx4 hC3
 go_wp2_with fail
 refine wp_loop_rounds 1 ?_
 rw [rounds_succ]
 have m0:=hC4.out.a
 have m1:=hC4.out.b
 obtain ⟨W5,hW5⟩:∃ W5,W5=W4:=⟨_,rfl⟩
 rw [← hW5] at f4 m0 m1
 rw [← hW5]
 clear hW5 hC4
 have hownG:=World.ownsRow_nil (W5.alloc (.cells #[.slice none 0 0,.slice (some ⟨g,0,none⟩) 1 cg] 208)) (W5.heap.size) 208 2
 have hcs:=cell_twoQ W5 (.slice none 0 0) (.slice (some ⟨g,0,none⟩) 1 cg) 208 W5.heap.size rfl
 have hfa:Fr W5 (W5.alloc (.cells #[.slice none 0 0,.slice (some ⟨g,0,none⟩) 1 cg] 208)):=(Fr.refl _).alloc _
 replace hcs:=hZ hcs
 go_wp2_with (at_builtin; refine wpList_append_lies _ rfl _ _ 209 (by rfl) _ 208 _ _ 2 48 Tryz.underlying209 ji jz0 jz1 jz2 rfl (by decide) _ 0 _ (by rfl) hownG ⟨W5.heap.size,0,none⟩ 1 1 [.slice none 0 0,.slice (some ⟨g,0,none⟩) 1 cg] (by rfl) rfl hcs.out (by simp [Value.oneCell']) (by decide) (by unfold maxLen; omega) (by omega) (by simp) (W5.heap.size+1) (by simp) ?_; intro gA capA wA hownA hgrowA hatA hltA)
 have hfrA:Fr w wA:=(f4.trans hfa).grown hgrowA (fun k e=>by cases e)
 have r0:=hownA.cellAt 0 (by decide)
 have r1:=hownA.cellAt 1 (by decide)
 clear hownA hgrowA hatA hltA hownG m0 m1
 rw [rounds_succ]
 go_wp2_with fail
 go_ret
 exact ⟨gA,capA,_,_,rfl,r0,r1,hfrA⟩
theorem hreduce_z (a b:Option Addr) (c cb:Nat) (w:World) (hG:G w):Calls Tryz.prog 78 #[.slice a 0 c,.slice b 0 cb] w fun e w'=>e=.returned (.tuple #[.slice none 0 0,.slice none 0 0])∧Fr w w':=by
 have c0:(w.alloc (.cells #[.slice b 0 cb] 44)).cell? ⟨w.heap.size,0,none⟩=some (.slice b 0 cb):=new_cell _ _ _
 have f0:Fr w (w.alloc (.cells #[.slice b 0 cb] 44)):=(Fr.refl _).alloc _
 have h1:=hZ (lines_one w.heap.size 1 b cb _ (hG.fr f0) c0)
 have h2:=hZ (fun W=>lines_z a c W)
 clear hG
 go_enter Tryz.func78,Tryz.ntmps78
 go_wp2_with fail
 refine h1.out.mono ?_
 rintro e w1 ⟨g,c2,g2,cg,rfl,d0,d1,hf1⟩
 go_wp2_with fail
 have f2:Fr w1 (w1.alloc (.cells #[.slice none 0 0,.slice (some ⟨g2,0,none⟩) 1 cg] 208)):=(Fr.refl _).alloc _
 have hC:=Cel2.new w1 (.slice none 0 0) (.slice (some ⟨g2,0,none⟩) 1 cg) 208
 refine (h2.out _).mono ?_
 rintro e w3 ⟨rfl,hf3⟩
 have m0:=hf3.keep hC.a
 go_wp2_with fail
 refine wp_loop_rounds 1 ?_
 rw [rounds_succ]
 go_wp2_with fail
 go_ret2
 exact ⟨rfl,(f0.trans hf1).trans (f2.trans hf3)⟩
theorem HReduce_z (a b:Option Addr) (c cb:Nat) (w:World) (hG:G w):Calls Tryz.prog 45 #[.slice a 0 c,.slice b 0 cb] w fun e w'=>∃ a1 c1 a2 c2,e=.returned (.tuple #[.slice a1 0 c1,.slice a2 0 c2,.int .i64 0])∧Fr w w':=by
 have h1:=hZ (hopen_z a b c cb w)
 have h2:=hZ (fun W (hW:Fr w W)=>hreduce_z a b c cb W (hG.fr hW))
 have h3:=hZ (fun W (hW:Fr w W)=>hsmall_z none 0 W (hG.fr hW))
 clear hG
 go_enter Tryz.func45,Tryz.ntmps45
 go_wp2_with fail
 refine h1.out.mono ?_
 rintro e w1 ⟨rfl,hf1⟩
 go_wp2_with fail
 refine (h2.out _ hf1).mono ?_
 rintro e w2 ⟨rfl,hf2⟩
 go_wp2_with fail
 refine (h3.out _ (hf1.trans hf2)).mono ?_
 rintro e w3 ⟨b3,c3,rfl,hf3⟩
 go_wp2_with fail
 refine (h3.out _ ((hf1.trans hf2).trans hf3)).mono ?_
 rintro e w4 ⟨b4,c4,rfl,hf4⟩
 go_wp2_with fail
 go_ret3
 exact ⟨_,_,_,_,rfl,((hf1.trans hf2).trans hf3).trans hf4⟩
theorem join_z (w:World):Calls Tryz.prog 149 #[.slice none 0 0,.string ⟨#[32]⟩] w fun e w'=>e=.returned (.string ⟨#[]⟩)∧Fr w w':=by
 go_enter Tryz.func149,Tryz.ntmps149
 go_wp2_with fail
 go_ret
 exact ⟨rfl,Fr.refl _⟩
theorem Key_z (a:Option Addr) (c:Nat) (w:World):Calls Tryz.prog 46 #[.slice a 0 c] w fun e w'=>e=.returned (.string (rowTx []))∧Fr w w':=by
 have h2:=hZ (Check_row [] a c w (.inl rfl) (by simp))
 have h3:=hZ (fun W=>join_z W)
 have h0:rowE []=0:=rfl
 rw [h0] at h2
 have h1:Calls Tryz.prog 95 #[.slice a 0 c,.bool true] w fun e w'=>e=.returned (.tuple #[.string (rowTx []),.int .i64 0])∧Fr w w':=by
  go_enter Tryz.func95,Tryz.ntmps95
  go_wp2_with fail
  refine h2.out.mono ?_
  rintro e w1 ⟨rfl,hf1⟩
  go_wp2_with fail
  refine wp_loop_rounds 1 ?_
  rw [rounds_succ]
  go_wp2_with fail
  refine (h3.out _).mono ?_
  rintro e w2 ⟨rfl,hf2⟩
  go_wp2_with fail
  go_ret2
  exact ⟨rfl,hf1.trans hf2⟩
 replace h1:=hZ h1
 go_enter Tryz.func46,Tryz.ntmps46
 go_wp2_with fail
 refine h1.out.mono ?_
 rintro e w1 ⟨rfl,hf1⟩
 go_wp2_with fail
 go_ret
 exact ⟨rfl,hf1⟩
theorem absent_z (a:Option Addr) (c mb:Nat) (l:List ByteArray) (hl:(l.any fun y=>y.toList == (rowTx []).toList)=true) (w:World) (hs:SeenIs w mb l):Calls Tryz.prog 47 #[.slice a 0 c,.int .i64 0,.map (some mb)] w (AbsRet w 0 none):=by
 obtain ⟨i0,hi,hz0,hz1,hz2⟩:=info_parts infoInt
 have h1:=hZ (fun b c W=>Key_z b c W)
 have hks:(rowTx []).size≤1000:=by decide +kernel
 obtain ⟨K,hK⟩:∃ K,K=rowTx []:=⟨_,rfl⟩
 rw [← hK] at h1 hks hl
 replace hK:=hZ hK
 replace hl:=hZ hl
 replace hs:=hZ hs
 have d0:decide ((0:Int) - 1 ≥ 0)=false:=rfl
 go_enter Tryz.func47,Tryz.ntmps47
 go_wp2_with (at_make; refine wpList_make_full _ rfl _ _ 44 rfl w.heap.size 3 i0 _ 1 Tryz.underlying44 hi hz0 hz1 _ _ _ _ 0 (by rfl) (by rfl) (by omega) (by omega) (by rw [hz2]; omega) (by unfold maxLen; omega) (Nat.le_refl _) ?_; intro w2 hown2 hgr2)
 have hf2:Fr w w2:=(Fr.refl w).grown hgr2 (fun k e=>by cases e)
 clear hown2 hgr2
 refine wp_loop_rounds 1 ?_
 rw [rounds_succ]
 go_wp2_with fail
 refine (h1.out _ _ _).mono ?_
 rintro e w3 ⟨rfl,hf3⟩
 have hsn3:=hZ (hs.out.fr (hf2.trans hf3))
 go_wp2_with (at_lookup; refine wpList_seen _ mb l K true rfl _ _ rfl (by rfl) (by rfl) hsn3.out (by unfold maxLen; omega) hl.out ?_)
 refine wp_loop_rounds 1 ?_
 rw [rounds_succ]
 go_wp2_with fail
 go_quiet (fail)
 go_wp2_with fail
 go_ret2
 exact ⟨rfl,(hf2.trans hf3).trans ((Fr.refl _).drewN _)⟩
theorem Clone_z (a:Option Addr) (c:Nat) (w:World):Calls Tryz.prog 44 #[.slice a 0 c] w fun e w'=>∃ a' c',e=.returned (.slice a' 0 c')∧Fr w w':=by
 obtain ⟨i0,hi,hz0,hz1,hz2⟩:=info_parts infoInt
 have q22:∀ (w:World) (a:Option Addr) (n c n' c':Nat),(binOp .eql 44 (.slice a n c) (.slice none n' c')).run Tryz.prog w=.ok (.bool a.isNone) w:=fun w a n c n' c'=>Lib.run_eql_slice_nil w _ 3 a n c n' c' Tryz.underlying44
 cases a with
 | none=>
   go_enter Tryz.func44,Tryz.ntmps44
   go_wp2_with fail
   go_ret
   exact ⟨_,_,rfl,Fr.refl _⟩
 | some a=>
   go_enter Tryz.func44,Tryz.ntmps44
   go_wp2_with (at_builtin; refine wpList_append_own _ rfl _ _ 44 (by rfl) w.heap.size 3 i0 _ 1 8 Tryz.underlying44 hi hz0 hz1 hz2 rfl (by decide) _ 0 [] (by rfl) (World.ownsRow_made w #[] 0 (Nat.le_refl _) (Nat.zero_le _) (by simp)) a 0 c [] (by rfl) rfl (fun j u h=>by simp at h) (fun u h=>by simp at h) (by unfold maxLen; omega) (by omega) (by simp) ?_; intro v2 w2 hown2 hgr2 hv2)
   obtain ⟨a9,c9,rfl,-⟩:=ownsRow_slice hown2
   go_ret
   exact ⟨⟨_,_,rfl⟩,((Fr.refl w).alloc _).grown hgr2 (fun k e=>by simp [Value.ownBlock] at e; omega)⟩
structure USearch (RN RA:List (List Int)) (d M:Nat) (C:List (List Int)) (D:Int) (B:List (List Int)) (F:Nat) (res:Option (List Int)):Prop where
 pos:1≤d→formS 200000 d 0 RA 0=some (B,d)∧SqForm d 176418 RA B∧absT B (RN.map fun q=>rowTx (restU B q)) d F (List.replicate d 0)=some res
 abs:absP B (fun x=>(spF (toF C D RN d x) M).isSome) d F (List.replicate d 0)=some res
 zero:d=0→B=[]∧res=none
 full:res=none→∀ r:List Int,r.length=d→(spF (toF C D RN d r) M).isSome=true
 count:NoTwo C D RN d M→res=none→(M:Int)=((detM RA).natAbs:Int)
def prU (RN:List (List Int)) (C:List (List Int)) (D:Int) (d i j:Nat):Option (List Int):=toF C D RN d (rowAt RN j) i
section
variable {N A:List Sy} {d M:Nat} {aN aA:Option Addr} {cN cA:Nat} {w:World} {C C':List (List Int)} {D D':Int}
theorem Nt42.rows (hn:Nt42 w aN aA cN cA M d N A) (hI:Inv42 (A.map Sy.row) d C D C' D') (hd:1≤d):Rows42 (N.map Sy.row) (A.map Sy.row) d M C D C' D' :=
 ⟨hd,hn.d3,hn.lA,fun q hq=>⟨hn.lRA q hq,hn.bA q hq⟩,hn.det,by rw [List.length_map]; exact hn.hM,fun q hq=>by obtain ⟨x,hx,rfl⟩:=List.mem_map.1 hq; exact (hn.rN x hx).2,hI.ok hd⟩
theorem Nt42.srch (hn:Nt42 w aN aA cN cA M d N A) (hI:Inv42 (A.map Sy.row) d C D C' D'):∃ B F res,USearch (N.map Sy.row) (A.map Sy.row) d M C D B F res:=by
 by_cases hd:1≤d
 ·have h:=hn.rows hI hd
  obtain ⟨B,h1,hB⟩:=h.form
  obtain ⟨F,res,h2,h3,h4⟩:=h.search hB
  exact ⟨B,F,res,fun _=>⟨h1,hB,h3⟩,h2,fun h9=>absurd h9 (by omega),fun hr r hrl=>h.full hB (h4 hr) hrl,fun hno hr=>h.count hB hno (h4 hr)⟩
 ·obtain rfl:d=0:=by omega
  have m1:=hn.m1
  have hs:∀ r,(spF (toF C D (N.map Sy.row) 0 r) M).isSome=true:=fun r=>spF_isSome.2 ⟨0,by omega,rfl⟩
  refine ⟨[],1,none,fun h=>absurd h hd, ?_,fun _=>⟨rfl,rfl⟩,fun _ r _=>hs r,fun hno _=>?_⟩
  ·rw [absP,if_pos (hs _)]; rfl
  ·have hM1:M=1:=Classical.byContradiction fun h9=>by
    have:=hno 0 1 (by omega) (by omega)
    cases this
   have hA0:A=[]:=List.eq_nil_of_length_eq_zero hn.hd
   rw [hM1,hA0]; rfl
theorem prU_ok (hn:Nt42 w aN aA cN cA M d N A) (hI:Inv42 (A.map Sy.row) d C D C' D') (i j:Nat) (cs:List Int) (hij:i < j) (hj:j < M) (h:prU (N.map Sy.row) C D d i j=some cs):cs.length=d∧cs.all fitB=true:=by
 refine ⟨toF_len h,List.all_eq_true.2 fun x hx=>?_⟩
 by_cases hd:1≤d
 ·have hr:=hn.rows hI hd
  unfold prU toF at h
  have h1:=solve_bd hr.ok.inv hn.d3 h (B:=18) (fun z hz=>by
   obtain ⟨u,v,hu,hv,rfl⟩:=mem_zipWithZ hz
   have h1:=(hr.row hj).2 u hu
   have h2:=(hr.row (show i < M by omega)).2 v hv
   omega) x hx
  exact decide_eq_true ⟨by omega,by omega⟩
 ·have:=toF_len h
  rw [List.eq_nil_of_length_eq_zero (show cs.length=0 by omega)] at hx
  cases hx
theorem prU_at (hn:Nt42 w aN aA cN cA M d N A) {i j:Nat} {x y:Sy} (hx:N[i]?=some x) (hy:N[j]?=some y):prU (N.map Sy.row) C D d i j=solveS (divC C D) (List.zipWith (· - ·) y.row x.row) d:=by
 unfold prU; rw [toF_at hn hx,hn.at hy]
variable {B:List (List Int)} {F:Nat} {res:Option (List Int)}
theorem NUnique42 (hn:Nt42 w aN aA cN cA M d N A) (hI:Inv42 (A.map Sy.row) d C D C' D') (hs:USearch (N.map Sy.row) (A.map Sy.row) d M C D B F res) (W:World) (hG:G W) (hW:Nt42 W aN aA cN cA M d N A) :
 Calls Tryz.prog 16 #[.agg #[.slice aN M cN,.slice aA d cA]] W (UqPost W N M d (prU (N.map Sy.row) C D d) res):=by
 have d3:=hn.d3
 have m1:=hn.m1
 have m8:=hn.m8
 have hrN:∀ x,x ∈ N→x.row.length=d:=fun x hx=>(hn.rN x hx).2.1
 have hck:=fun W' (hW':Fr W W')=>(hW.fr hW').check (hG.fr hW')
 by_cases hd:1≤d
 ·obtain ⟨h1,hB,h2⟩:=hs.pos hd
  have hr:=hn.rows hI hd
  obtain ⟨⟨⟨hF,-⟩,hI0⟩,-⟩:=hI hd
  obtain ⟨Fq,hq1,hq2,hq3⟩:=hF
  have hfB:∀ q,q ∈ B→∀ x,x ∈ q→fitB x=true:=fun q hq x hx=>by
   obtain ⟨i,hi⟩:=List.getElem?_of_mem hq
   obtain ⟨k,hk⟩:=List.getElem?_of_mem hx
   have:=hB.bd i k
   unfold ent rowAt at this
   rw [hi,Option.getD_some,hk,Option.getD_some] at this
   exact decide_eq_true ⟨by omega,by omega⟩
  have hTA:TabOk d (A.map Sy.row):=⟨by rw [hn.lA]; omega,by omega,hn.lRA,fun q hq x hx=>fit9 (hn.bA q hq x hx)⟩
  have hTB:TabOk d B:=⟨by rw [hB.len]; omega,by omega,hB.rect,hfB⟩
  have hBt:B.take d=B:=List.take_of_length_le (by rw [hB.len]; exact Nat.le_refl _)
  have hrest:=fun (x:Sy) (hx:x ∈ N)=>rest_rep hB d3 (by decide) (hrN x hx) (hn.rN x hx).2.2
  have hrf:∀ x,x ∈ N→(restU B x.row).length=d∧∀ z,z ∈ restU B x.row→fitB z=true:=fun x hx=>by
   obtain ⟨h3,s,h4,h5,h6,h7⟩:=hrest x hx
   rw [← h5]
   exact ⟨by rw [h5]; exact h3.len,fun z hz=>by have:=h6 z hz; exact decide_eq_true ⟨by omega,by omega⟩⟩
  refine Unique_gen N A d M B (restU B) (fun W v xs=>∃ g c,v=.slice (some ⟨g,0,none⟩) d c∧El W sv (some ⟨g,0,none⟩) xs) _ res aN aA cN cA W hG hW.hn hn.hM.symm m1 (by omega) (by omega) hn.hd hB.len hrN
   (fun W' W'' v xs ⟨g,c,e,h⟩ hf=>⟨g,c,e,h.fr hf⟩) hck ?_ ?_ ?_ (prU_ok hn hI) ?_ ?_ ?_ ?_ ?_
  ·intro W' hW' a c hm
   have:=OfC_any (A.map Sy.row) B 200000 d a c d W' (hG.fr hW') hm hTA (by rw [hn.lA]; omega) hd h1 (by rw [hBt]; exact hfB)
   rw [hn.lA,hBt] at this
   exact this
  ·intro x hx W' hW'
   refine (NInts_el x.row x.ra x.rc d W' (hG.fr hW') ((hW.hn.noms.2 x hx).fr hW') (hrN x hx) hd (by omega) (fun y hy=>fit9 ((hn.rN x hx).2.2 y hy))).mono ?_
   rintro e w' ⟨g,c,rfl,h3,h4⟩
   exact ⟨_,rfl,⟨g,c,rfl,h3⟩,h4⟩
  ·rintro i j x y hx hy hij W' hW' v1 v2 ⟨g,c,rfl,e1⟩ ⟨g2,c2,rfl,e2⟩
   have hxm:=List.mem_of_getElem? hx
   have hym:=List.mem_of_getElem? hy
   have hinv:∀ a c W2,Fr W' W2→MatIs W2 a (A.map Sy.row)→Calls Tryz.prog 88 #[.slice a d c] W2 (InvRet W2 (Fq.g.map (List.drop d))):=fun a c W2 hW2 hm=>by
    have h:=Inverse_any (A.map Sy.row) a c d Fq W2 ((hG.fr hW').fr hW2) hm hTA hd hn.lA hq1 hq2
    rw [hn.lA] at h
    exact h
   rw [hq3] at hinv
   have:=Solve_any aN aA M cN cA d A (divC C D) x.row y.row (some ⟨g,0,none⟩) (some ⟨g2,0,none⟩) c c2 W' (hG.fr hW') (hW.hn.accs.fr hW') hn.hd.symm hd (by omega) hinv (fun q hq=>by unfold divC at hq; obtain ⟨z,hz,rfl⟩:=List.mem_map.1 hq; rw [List.length_map]; exact hI0.rect z hz) (by unfold divC; rw [List.length_map]; exact hI0.len) e1 e2 (hrN x hxm) (hrN y hym)
    (fun z hz=>by have:=(hn.rN x hxm).2.2 z hz; exact ⟨by omega,by omega⟩) (fun z hz=>by have:=(hn.rN y hym).2.2 z hz; exact ⟨by omega,by omega⟩) (hr.ok.sumOk d3 (hn.dif (fun z hz=>fit9 ((hn.rN y hym).2.2 z hz)) hxm))
   rw [← prU_at hn hx hy] at this
   exact this
  ·intro x hx W' hW'
   have hl:=hrN x hx
   rcases ((hW.hn.noms.2 x hx).fr hW') with h9 | ⟨b,o,hra,hb,hc⟩
   ·rw [h9] at hl; exact absurd hl (by show ¬ (0=d); omega)
   ·have:=Clone_row b o x.rc x.row W' (by omega) hc
    rw [hl] at this
    rw [hra]
    refine this.mono ?_
    rintro e w' ⟨g,c,rfl,hf,ho⟩
    rw [hl] at ho ⊢
    have h8:=ownsRow_ownI (gN_le (hG.fr hW')) ho
    exact ⟨_,_,rfl,.inr ⟨g,rfl,h8.2.2.2.1,h8.1.el⟩,hf⟩
  ·intro x hx W' hW' a c hm hc
   obtain ⟨h3,s,h4,h5,h6,h7⟩:=hrest x hx
   have hsl:=redT_len _ s h4
   have:=HReduce_ok B x.row s a x.ra c x.rc d W' (hG.fr hW') hm hTB (by rw [hB.len]; exact hc) hB.ok hd (by rw [hB.len]; omega) ((hW.hn.noms.2 x hx).fr hW') (hrN x hx) (fun y hy=>fit9 ((hn.rN x hx).2.2 y hy)) (by rw [hB.len]; exact h4) (fun z hz=>by rw [h5] at hz; exact (hrf x hx).2 z hz) (fun z hz=>by have:=h7 z hz; exact decide_eq_true ⟨by omega,by omega⟩)
   rw [hB.len] at this
   refine this.mono ?_
   rintro e w' ⟨b,c',b2,c2,rfl,h8,-,h9⟩
   exact ⟨_,_,_,_,by rw [hsl.1,hsl.2,hrN x hx],by rw [← h5]; exact h8,h9⟩
  ·intro x hx W' hW' a c he
   exact Key_ok (restU B x.row) a c d W' (hG.fr hW') he (hrf x hx).1 (by omega) hd (hrf x hx).2
  ·exact fun x hx=>rowTx_size _ (by rw [(hrf x hx).1]; omega) (by rw [(hrf x hx).1]; omega) (hrf x hx).2
  ·intro W' hW' a c mb hm hsn
   exact absent_any B a c d mb F _ res W' (hG.fr hW') hm hB.rect hB.len hd (by omega) hfB hsn (by rw [List.map_map] at h2; exact h2)
 ·obtain rfl:d=0:=by omega
  obtain ⟨rfl,rfl⟩:=hs.zero rfl
  have hr0:∀ x,x ∈ N→x.row=[]:=fun x hx=>List.eq_nil_of_length_eq_zero (hrN x hx)
  have hpr:∀ i j,prU (N.map Sy.row) C D 0 i j=some []:=fun i j=>rfl
  refine Unique_gen N A 0 M [] (fun x=>x) (fun _ _ _=>True) _ none aN aA cN cA W hG hW.hn hn.hM.symm m1 (by omega) (by omega) hn.hd rfl hrN
   (fun _ _ _ _ _ _=>trivial) hck ?_ ?_ ?_ (prU_ok hn hI) ?_ ?_ ?_ ?_ ?_
  ·intro W' hW' a c _
   exact Of_z a c W'
  ·intro x hx W' hW'
   refine (NInts_nil x.ra x.rc W').mono ?_
   rintro e w' ⟨rfl,rfl⟩
   exact ⟨_,rfl,trivial,Fr.refl _⟩
  ·rintro i j x y hx hy hij W' hW' v1 v2 - -
   rw [hpr]
   refine (Solve_nil aN aA M cN cA v1 v2 W' (hG.fr hW')).mono ?_
   rintro e w' ⟨rfl,hf⟩
   exact ⟨_,rfl,World.ownsRow_nil _ _ _ _,hf⟩
  ·intro x hx W' hW'
   refine (Clone_z x.ra x.rc W').mono ?_
   rintro e w' ⟨a',c',rfl,hf⟩
   exact ⟨_,_,rfl,.inl (hr0 x hx),hf⟩
  ·intro x hx W' hW' a c _ _
   refine (HReduce_z a x.ra c x.rc W' (hG.fr hW')).mono ?_
   rintro e w' ⟨a1,c1,a2,c2,rfl,hf⟩
   exact ⟨_,_,_,_,rfl,.inl (hr0 x hx),hf⟩
  ·intro x hx W' hW' a c _
   rw [hr0 x hx]
   exact Key_z a c W'
  ·intro x hx
   rw [hr0 x hx]
   decide +kernel
  ·intro W' hW' a c mb _ hsn
   refine absent_z a c mb _ ?_ W' hsn
   obtain ⟨x,hx,hxm⟩:=hn.get (show 0 < M by omega)
   exact List.any_eq_true.2 ⟨_,List.mem_map.2 ⟨x,hxm,rfl⟩,by rw [hr0 x hxm]; exact beq_self_eq_true _⟩
end
end Go.Proofs.YtklpnlbmdknjeaaGreatDoor
