/-
  Contracts and laws for the statements of the law 43 of the seat, QChks.
-/
import Derived.Test.YtbpfkmpkadimeaaGreatDoorQG
import Derived.Test.YtbpfkmpkadimeaaGreatDoorQJ
import Derived.Test.YtbpfkmpkadimeaaGreatDoorQK

/- schismalaw43.SpellingChecks returns true. -/
namespace Go.Proofs.YtbpfkmpkadimeaaGreatDoor
open Go.RowKit Go.Lib
attribute [local go_sem ↓] Go.wp_at_zero Go.wp_at_succ

set_option maxRecDepth 100000 in
set_option maxHeartbeats 4000000 in
theorem SpellingChecks_any (aN aA : Option Addr) (cN cA : Nat) (N A : List Sy) (w : World) (hG : G w) (hn : NotIs w aN aA cA N A) (hnN : aN = none → cN = 0) (hNl : N.length ≤ maxLen) (hAl : A.length ≤ maxLen) :
    Calls Tryz.prog 4 #[.agg #[.slice aN N.length cN, .slice aA A.length cA]] w fun e w' => e = .returned (.bool true) ∧ Fr w w' := by
  have hfew := fun W (hW : Fr w W) => few_any aN aA cN cA N A W (hn.fr hW) hnN hNl hAl
  have hchk := fun (h : fewB N A = true) W (hW : Fr w W) => check_law aN aA cN cA N A W (hn.fr hW) (fewB_fit h).2.2 (by have := (fewB_fit h).1; omega) (by have := (fewB_fit h).2.1; omega)
  have hscK := fun (h : fewB N A = true) W (hW : Fr w W) => SCheck_any aN aA cN cA N A W (hn.fr hW) (fewB_fit h).2.2 (by have := (fewB_fit h).1; omega) (by have := (fewB_fit h).2.1; omega)
  have hkn := Lib.hid (fun W (hW : Fr w W) => known_any W (hG.fr hW))
  have hju := Lib.hid (fun W b o c (hW : Fr w W) (hc : W.cell? ⟨b, o, none⟩ = some (.int .i64 2)) => Just_two b o c W (hG.fr hW) hc)
  obtain ⟨nN, hnn⟩ : ∃ nN, nN = N.length := ⟨_, rfl⟩
  obtain ⟨nA, han⟩ : ∃ nA, nA = A.length := ⟨_, rfl⟩
  rw [← hnn, ← han] at hfew hchk hscK
  rw [← hnn, ← han]
  generalize fewB N A = bF at *
  generalize chkE N A = E at *
  clear hn hnn han hnN hNl hAl hG
  obtain ⟨wb, hwb⟩ : ∃ wb, wb = w.alloc (.cells #[.slice aN nN cN, .slice aA nA cA] 31) := ⟨_, rfl⟩
  have hfb : Fr w wb := by rw [hwb]; exact (Fr.refl _).alloc _
  have n0 : wb.cell? ⟨w.heap.size, 0, none⟩ = some (.slice aN nN cN) := by rw [hwb]; exact (new2a _ _ _ _).1
  have n1 : wb.cell? ⟨w.heap.size, 1, none⟩ = some (.slice aA nA cA) := by rw [hwb]; exact (new2b _ _ _ _).1
  replace hfew := Lib.hid hfew
  replace hchk := Lib.hid hchk
  replace hscK := Lib.hid hscK
  go_enter Tryz.func4, Tryz.ntmps4
  go_upto_region 1 with (fail)
  rw [← hwb]
  clear hwb
  go_wp2_with fail
  refine (hkn.out _ hfb).mono ?_
  rintro e w2 ⟨rfl, hf2⟩
  replace hfb := hfb.trans hf2
  replace n0 := hf2.keep n0
  replace n1 := hf2.keep n1
  clear hf2
  go_wp2_with fail
  refine (hfew.out _ hfb).mono ?_
  rintro e w3 ⟨rfl, hf3⟩
  replace hfb := hfb.trans hf3
  replace n0 := hf3.keep n0
  replace n1 := hf3.keep n1
  clear hf3
  cases bF with
  | false =>
    go_wp2_with fail
    refine (hkn.out _ hfb).mono ?_
    rintro e w4 ⟨rfl, hf4⟩
    go_wp2_with fail
    go_ret
    exact ⟨rfl, hfb.trans hf4⟩
  | true =>
    replace hchk := Lib.hid (hchk.out rfl)
    replace hscK := Lib.hid (hscK.out rfl)
    go_wp2_with fail
    refine (hchk.out _ hfb).mono ?_
    rintro e w4 ⟨rfl, hf4⟩
    replace hfb := hfb.trans hf4
    replace n0 := hf4.keep n0
    replace n1 := hf4.keep n1
    clear hf4 hchk
    go_wp2_with fail
    refine (hscK.out _ hfb).mono ?_
    rintro e w5 ⟨rfl, hf5⟩
    replace hfb := hfb.trans hf5
    replace n0 := hf5.keep n0
    replace n1 := hf5.keep n1
    clear hf5
    have q0 : (E != E) = false := by simp
    by_cases hE : E = 0
    · have q1 : (E == 0) = true := by rw [hE]; rfl
      replace hE := Lib.hid hE
      go_wp2_with fail
      go_ret
      exact ⟨rfl, hfb⟩
    have q1 : (E == 0) = false := beq_false_of_ne hE
    have hBad : ∀ W, Fr w W → ChkBad W E aN aA nN cN nA cA := fun W hW W2 hW2 => hscK.out W2 (hW.trans hW2)
    replace hE := Lib.hid hE
    replace hBad := Lib.hid hBad
    clear hscK
    go_wp2_with fail
    have c2 : (w5.alloc (.cells #[.int .i64 2] 3)).cell? ⟨w5.heap.size, 0, none⟩ = some (.int .i64 2) := new_cell _ _ _
    refine (hju.out _ _ _ _ (hfb.alloc _) c2).mono ?_
    rintro e w6 ⟨pa, pc, sa, sc, aa, ac, rfl, hf6⟩
    have hf56 := ((Fr.refl w5).alloc (.cells #[.int .i64 2] 3)).trans hf6
    replace hfb := hfb.trans hf56
    replace n0 := hf56.keep n0
    replace n1 := hf56.keep n1
    clear hf6 hf56 c2
    go_upto_region 10 with (fail)
    obtain ⟨w7, hw7⟩ : ∃ w7, w7 = alls w6 [(.cells #[.slice pa 1 pc, .slice sa 0 sc, .slice aa 1 ac] 59), (.cells #[.int .i64 0, .slice none 0 0] 50)] := ⟨_, rfl⟩
    have hf7 : Fr w6 w7 := by rw [hw7]; exact alls_fr _ _
    have g0 : w7.heap[w6.heap.size]? = some (.cells #[.slice pa 1 pc, .slice sa 0 sc, .slice aa 1 ac] 59 (0, 0)) := by rw [hw7]; exact alls_get _ w6 0 _ rfl
    have g1 : w7.heap[w6.heap.size + 1]? = some (.cells #[.int .i64 0, .slice none 0 0] 50 (0, 0)) := by rw [hw7]; exact alls_get _ w6 1 _ rfl
    have t0 : w7.cell? ⟨w6.heap.size, 0, none⟩ = some (.slice pa 1 pc) := cells_of g0 0
    have t1 : w7.cell? ⟨w6.heap.size, 1, none⟩ = some (.slice sa 0 sc) := cells_of g0 1
    have t2 : w7.cell? ⟨w6.heap.size, 2, none⟩ = some (.slice aa 1 ac) := cells_of g0 2
    have s0 : w7.cell? ⟨w6.heap.size + 1, 0, none⟩ = some (.int .i64 0) := cells_of g1 0
    have s1 : w7.cell? ⟨w6.heap.size + 1, 1, none⟩ = some (.slice none 0 0) := cells_of g1 1
    clear g0 g1
    change Code.wp _ _ _ _ (alls w6 [(.cells #[.slice pa 1 pc, .slice sa 0 sc, .slice aa 1 ac] 59), (.cells #[.int .i64 0, .slice none 0 0] 50)])
    rw [← hw7]
    clear hw7
    replace hfb := hfb.trans hf7
    replace n0 := hf7.keep n0
    replace n1 := hf7.keep n1
    clear hf7
    go_wp2_with fail
    refine (Read_err E aN aA nN cN nA cA 0 none 0 0 _ (hBad.out _ hfb) hE.out).mono ?_
    rintro e w8 ⟨rfl, hf8⟩
    replace hfb := hfb.trans hf8
    replace n0 := hf8.keep n0
    replace n1 := hf8.keep n1
    replace t0 := hf8.keep t0
    replace t1 := hf8.keep t1
    replace t2 := hf8.keep t2
    replace s0 := hf8.keep s0
    replace s1 := hf8.keep s1
    clear hf8
    go_wp2_with fail
    refine (All_err E aN aA none nN cN nA cA 0 0 0 _ (hBad.out _ hfb) hE.out).mono ?_
    rintro e w9 ⟨rfl, hf9⟩
    replace hfb := hfb.trans hf9
    replace n0 := hf9.keep n0
    replace n1 := hf9.keep n1
    replace t0 := hf9.keep t0
    replace t1 := hf9.keep t1
    replace t2 := hf9.keep t2
    replace s0 := hf9.keep s0
    replace s1 := hf9.keep s1
    clear hf9
    go_wp2_with fail
    refine (Simplest_err E aN aA none nN cN nA cA 0 0 0 _ (hBad.out _ hfb) hE.out).mono ?_
    rintro e w10 ⟨rfl, hf10⟩
    replace hfb := hfb.trans hf10
    replace n0 := hf10.keep n0
    replace n1 := hf10.keep n1
    replace t0 := hf10.keep t0
    replace t1 := hf10.keep t1
    replace t2 := hf10.keep t2
    replace s0 := hf10.keep s0
    replace s1 := hf10.keep s1
    clear hf10
    go_upto_region 13 with (fail)
    obtain ⟨w11, hw11⟩ : ∃ w11, w11 = w10.alloc (.cells #[.int .i64 0, .slice none 0 0] 50) := ⟨_, rfl⟩
    have hf11 : Fr w10 w11 := by rw [hw11]; exact (Fr.refl _).alloc _
    rw [← hw11]
    clear hw11
    replace hfb := hfb.trans hf11
    replace n0 := hf11.keep n0
    replace n1 := hf11.keep n1
    replace t0 := hf11.keep t0
    replace t1 := hf11.keep t1
    replace t2 := hf11.keep t2
    replace s0 := hf11.keep s0
    replace s1 := hf11.keep s1
    clear hf11
    go_wp2_with fail
    refine (Enharmonic_err E aN aA nN cN nA cA 0 none 0 0 0 _ (hBad.out _ hfb) hE.out).mono ?_
    rintro e w12 ⟨rfl, hf12⟩
    replace hfb := hfb.trans hf12
    replace n0 := hf12.keep n0
    replace n1 := hf12.keep n1
    replace t0 := hf12.keep t0
    replace t1 := hf12.keep t1
    replace t2 := hf12.keep t2
    replace s0 := hf12.keep s0
    replace s1 := hf12.keep s1
    clear hf12
    go_wp2_with fail
    refine (Relations_err E aN aA nN cN nA cA _ (hBad.out _ hfb) hE.out).mono ?_
    rintro e w13 ⟨rfl, hf13⟩
    replace hfb := hfb.trans hf13
    replace n0 := hf13.keep n0
    replace n1 := hf13.keep n1
    replace t0 := hf13.keep t0
    replace t1 := hf13.keep t1
    replace t2 := hf13.keep t2
    replace s0 := hf13.keep s0
    replace s1 := hf13.keep s1
    clear hf13
    go_wp2_with fail
    refine (Same_err E aN aA nN cN nA cA 0 none 0 0 0 none 0 0 _ (hBad.out _ hfb) hE.out).mono ?_
    rintro e w14 ⟨rfl, hf14⟩
    replace hfb := hfb.trans hf14
    replace n0 := hf14.keep n0
    replace n1 := hf14.keep n1
    replace t0 := hf14.keep t0
    replace t1 := hf14.keep t1
    replace t2 := hf14.keep t2
    replace s0 := hf14.keep s0
    replace s1 := hf14.keep s1
    clear hf14
    go_wp2_with fail
    refine (Interval_err E aN aA nN cN nA cA (.slice pa 1 pc) (.slice sa 0 sc) (.slice aa 1 ac) (.slice none 0 0) (.int .i64 0) _ (hBad.out _ hfb) hE.out).mono ?_
    rintro e w15 ⟨rfl, hf15⟩
    have ee : (E == E) = true := by simp
    go_wp2_with fail
    go_ret
    exact ⟨rfl, (hfb.trans hf15).alloc _⟩
end Go.Proofs.YtbpfkmpkadimeaaGreatDoor
