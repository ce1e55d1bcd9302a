/-
  Contracts and laws for the statements of the seat, QTx2.
-/
import Derived.Test.YtkjemicelmabdaaGreatDoorQRd

set_option maxRecDepth 100000
set_option maxHeartbeats 1000000
namespace Go.Proofs.YtkjemicelmabdaaGreatDoor
open Go.RowKit Go.Lib
attribute [local go_sem ↓] Go.wp_at_zero Go.wp_at_succ
theorem same42_eq (i:Int) (cs:List Int) (a b:Option Addr) (ca cb n m:Nat) (w:World) (hx:El w iv a cs) (hy:El w iv b cs) (hn:cs.length=n) (hm:cs.length=m) (h1:n≤1000000000) :
 Calls Tryz.prog 12 #[.agg #[.int .i64 i,.slice a n ca],.agg #[.int .i64 i,.slice b m cb]] w fun e w'=>e=.returned (.bool true)∧Fr w w':=by
 have hE:=fun W (hW:Fr w W)=>REqual_any cs cs a b ca cb n m W (hx.fr hW) (hy.fr hW) hn hm h1 (by omega)
 rw [decide_eq_true rfl] at hE
 replace hE:=hZ hE
 clear hx hy hn hm
 have q1:(i == i)=true:=beq_self_eq_true i
 have f2:Fr w ((w.alloc (.cells #[.int .i64 i,.slice a n ca] 37)).alloc (.cells #[.int .i64 i,.slice b m cb] 37)):=((Fr.refl w).alloc _).alloc _
 replace f2:=hZ f2
 go_enter Tryz.func12,Tryz.ntmps12
 go_wp2_with fail
 refine (hE.out _ f2.out).mono ?_
 rintro e w3 ⟨rfl,hf3⟩
 go_wp2_with fail
 go_ret
 exact ⟨rfl,f2.out.trans hf3⟩
end Go.Proofs.YtkjemicelmabdaaGreatDoor
