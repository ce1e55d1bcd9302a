/- Contracts and laws: RUG. -/
import Derived.Test.YtcglmebcfeoedaaGreatDoorRL
import Derived.Test.YtcglmebcfeoedaaGreatDoorRF

set_option maxRecDepth 100000
set_option maxHeartbeats 1000000
namespace Go.Proofs.YtcglmebcfeoedaaGreatDoor
open Go.RowKit Go.Lib
attribute [local go_sem ↓] Go.wp_at_zero Go.wp_at_succ
theorem longsOf_z (a:Option Addr) (c:Nat) (w:World):Calls Tryz.prog 102 #[.slice a 0 c] w fun e w'=>e=.returned (.slice none 0 0)∧Fr w w':=by
 go_enter Tryz.func102,Tryz.ntmps102
 go_wp2_with fail
 refine wp_loop_rounds 1 ?_
 rw [rounds_succ]
 go_wp2_with fail
 go_ret
 exact ⟨rfl,Fr.refl _⟩
theorem form_n (n:Nat) (w:World):Calls Tryz.prog 103 #[.slice none 0 0,.int .i64 n] w fun e w'=>e=.returned (.slice none 0 0)∧Fr w w':=by
 go_enter Tryz.func103,Tryz.ntmps103
 go_wp2_with fail
 refine wp_loop_rounds 1 ?_
 rw [rounds_succ]
 go_wp2_with fail
 all_goals
  go_ret
  exact ⟨rfl,Fr.refl _⟩
theorem Of_n (n:Nat) (hn:n≤12) (a:Option Addr) (c:Nat) (w:World):Calls Tryz.prog 41 #[.int .i64 n,.slice a 0 c] w (LatRetC w n []):=by
 have hchk:=fun W=>latCheck_ok [] a c n W (.inl rfl) (fun r hr=>by simp at hr) (by simp) (fun r hr=>by simp at hr) hn
 simp only [List.length_nil] at hchk
 have hl:=fun W=>longsOf_z a c W
 have hf:=fun W=>form_n n W
 have hs:=fun W=>short_nil n W
 replace hchk:=hZ hchk
 replace hl:=hZ hl
 replace hf:=hZ hf
 replace hs:=hZ hs
 have hfA:Fr w (w.alloc (.cells #[.int .i64 0,.slice none 0 0] 93)):=(Fr.refl w).alloc _
 replace hfA:=hZ hfA
 go_enter Tryz.func41,Tryz.ntmps41
 go_wp2_with fail
 refine (hchk.out _).mono ?_
 rintro e w1 ⟨rfl,hf1⟩
 go_wp2_with fail
 refine (hl.out _).mono ?_
 rintro e w2 ⟨rfl,hf2⟩
 go_wp2_with fail
 refine (hf.out _).mono ?_
 rintro e w3 ⟨rfl,hf3⟩
 go_wp2_with fail
 refine (hs.out _).mono ?_
 rintro e w4 ⟨rfl,hf4⟩
 have hfr3:=((hf1.trans hf2).trans hf3).trans hf4
 have hfw:=hZ (hfA.out.trans hfr3)
 have p1:=new2a w (.int .i64 0) (.slice none 0 0) 93
 have p2:=new2b w (.int .i64 0) (.slice none 0 0) 93
 have c1:=hfr3.keep p1.1
 have c2:=hfr3.keep p2.1
 have c3:=hfr3.keepf p1.1 p1.2
 have c5:=hfr3.keepf p2.1 p2.2
 clear p1 p2
 have c1h:=hZ c1
 have c2h:=hZ c2
 go_wp2_with fail
 have e1:(⟨w.heap.size,0,none⟩:Addr)≠⟨w.heap.size,1,none⟩:=fun e=>by injection e with _ e; omega
 have q0:(w4.setCell ⟨w.heap.size,0,none⟩ (.int .i64 n)).cell? ⟨w.heap.size,0,none⟩=some (.int .i64 n):=World.cell?_setCell_same' _ _ _ (by rw [c1h.out]; rfl)
 have q1:((w4.setCell ⟨w.heap.size,0,none⟩ (.int .i64 n)).setCell ⟨w.heap.size,1,none⟩ (.slice none 0 0)).cell? ⟨w.heap.size,1,none⟩=some (.slice none 0 0):=World.cell?_setCell_same' _ _ _ (by rw [World.cell?_setCell_other _ _ _ _ e1,c2h.out]; rfl)
 exact bodyPost_ret (v:=.tuple #[.agg #[.int .i64 n,.slice none 0 0],.int .i64 0]) (by simp [results,Tryz.results41,go_sem,q0,q1]) rfl ⟨none,0,rfl,Nat.le_refl _,fun W hW=>.inl rfl,(hfw.out.setCell (p:=⟨w.heap.size,0,none⟩) (by simp) _).setCell (p:=⟨w.heap.size,1,none⟩) (by simp) _⟩

end Go.Proofs.YtcglmebcfeoedaaGreatDoor
