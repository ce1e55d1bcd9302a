/- lattice.Of at one row. -/
import Derived.Test.YtphjfalibnnohaaGreatDoorForm
import Derived.Test.YtphjfalibnnohaaGreatDoorKernel
namespace Go.Proofs.YtphjfalibnnohaaGreatDoor
open Go.RowKit Go.Lib
attribute [local go_sem ↓] Go.wp_at_zero Go.wp_at_succ

set_option maxRecDepth 100000 in
set_option maxHeartbeats 4000000 in
theorem Of_one (x : Int) (xs : List Int) (a : Option Addr) (cap n : Nat) (w : World) (hG : G w) (hm : MatIs w a [x :: xs]) (hok : TabOk n [x :: xs]) (hx : 0 < x) (hn : 1 ≤ n) :
    Calls Tryz.prog 67 #[.int .i64 n, .slice a 1 cap] w (LatRet w n [x :: xs]) := by
  have hfit := hok.2.2.2
  have hr1 := hok.2.2.1
  have hlen : (x :: xs).length = n := hr1 _ (by simp)
  have hsm : ∀ r, r ∈ [x :: xs] → ∀ y, y ∈ r → Sm y := fun r hr y hy => fit_sm (hfit r hr y hy)
  have hn12 := hok.2.1
  have hxl : xs.length ≤ 1000000 := by simp at hlen; omega
  have hrl : ∀ r, r ∈ [x :: xs] → r.length ≤ 1000000 := fun r hr => by rw [hr1 r hr]; omega
  have hsx : Sm x := hsm (x :: xs) (List.mem_cons_self ..) x (List.mem_cons_self ..)
  have hE : ∀ r, r ∈ [x :: xs] → rowE r = 0 := fun r hr =>
    rowE_ok (by rw [hr1 r hr]; omega) (by
      rw [List.any_eq_false]
      intro y hy
      rw [hfit r hr y hy]; simp)
  have hgr2 : ∀ r, r ∈ [x :: xs] → ∀ y, y ∈ r → fitB y = true := hfit
  have hchk := fun W hW => latCheck_ok [x :: xs] a cap n W (hm.fr (w' := W) hW) hr1 (by simp) hE hn12
  have hlongs := fun W hW => longsOf_any [x :: xs] a cap W (hG.fr hW) (hm.fr hW) hrl (by simp) hsm
  have hform := fun ob oo oc hs W hg hoc => form1_any ob oo oc n x xs hs W hg hx hsx hn (by omega) hxl hoc
  have hG1 := Lib.hid hG
  replace hgr2 := Lib.hid hgr2
  replace hfit := Lib.hid hfit
  replace hrl := Lib.hid hrl
  replace hchk := Lib.hid hchk
  replace hlongs := Lib.hid hlongs
  replace hform := Lib.hid hform
  clear hm hok hG hr1 hlen hsm hE hsx
  have hgn := gN_le hG1.out
  go_enter Tryz.func67, Tryz.ntmps67
  go_wp2_with fail
  refine (hchk.out _ ((Fr.refl w).alloc _)).mono ?_
  rintro e w1 ⟨rfl, hf1⟩
  go_wp2_with fail
  refine (hlongs.out _ (((Fr.refl w).alloc _).trans hf1)).mono ?_
  rintro e w2 ⟨v, hs, rfl, hgg, hnew, hf2⟩
  obtain ⟨ob, oc, rfl⟩ := ownsRow_pos hgg.own (by simp)
  obtain ⟨hg, -, hgb, hgc⟩ := hgg.grid
  clear hgg
  have hg9 := Lib.hid hg
  go_wp2_with fail
  refine (hform.out ob 0 oc hs _ hg9.out hgc).mono ?_
  rintro e w3 ⟨rfl, hfx3, hg3⟩
  replace hg3 := Lib.hid hg3
  have hfr3 : Fr (w.alloc (.cells #[.int .i64 0, .slice none 0 0] 108)) w3 := ((Fx.of_fr (hf1.trans hf2)).trans hfx3).toFr (fun k hk e => by
    have h1 := hf1.size
    rcases e with rfl | ⟨h, hm9, rfl⟩
    · omega
    · have := hnew.out h hm9; omega)
  go_wp2_with fail
  refine (short_any ob oc 1 n hs [x :: xs] w3 (hG1.out.fr (((Fr.refl w).alloc _).trans hfr3)) hg3.out (by simp) (by simp) hrl.out hgr2.out).mono ?_
  rintro e w4 ⟨a4, c4, rfl, hm4, hf4⟩
  have p1 := new2a w (.int .i64 0) (.slice none 0 0) 108
  have p2 := new2b w (.int .i64 0) (.slice none 0 0) 108
  have c1 := (hfr3.trans hf4).keep p1.1
  have c2 := (hfr3.trans hf4).keep p2.1
  have c3 := (hfr3.trans hf4).keepf p1.1 p1.2
  have c5 := (hfr3.trans hf4).keepf p2.1 p2.2
  replace hm4 := Lib.hid hm4
  clear p1 p2
  go_wp2_with fail
  have e1 : (⟨w.heap.size, 0, none⟩ : Addr) ≠ ⟨w.heap.size, 1, none⟩ := fun e => by injection e with _ e; omega
  have q0 : (w4.setCell ⟨w.heap.size, 0, none⟩ (.int .i64 n)).cell? ⟨w.heap.size, 0, none⟩ = some (.int .i64 n) := World.cell?_setCell_same' _ _ _ (by rw [c1]; rfl)
  have q1 : ((w4.setCell ⟨w.heap.size, 0, none⟩ (.int .i64 n)).setCell ⟨w.heap.size, 1, none⟩ (.slice a4 1 c4)).cell? ⟨w.heap.size, 1, none⟩ = some (.slice a4 1 c4) := World.cell?_setCell_same' _ _ _ (by rw [World.cell?_setCell_other _ _ _ _ e1, c2]; rfl)
  have hfw : Fr w w4 := ((Fr.refl w).alloc _).trans (hfr3.trans hf4)
  refine bodyPost_ret (v := .tuple #[.agg #[.int .i64 n, .slice a4 1 c4], .int .i64 0]) (by simp [results, Tryz.results67, go_sem, q0, q1]) rfl ⟨a4, c4, rfl, ?_, (hfw.setCell (p := ⟨w.heap.size, 0, none⟩) (by simp) _).setCell (p := ⟨w.heap.size, 1, none⟩) (by simp) _⟩
  have hfx : Fx (· = w.heap.size) w4 ((w4.setCell ⟨w.heap.size, 0, none⟩ (.int .i64 n)).setCell ⟨w.heap.size, 1, none⟩ (.slice a4 1 c4)) := Fx.setCell (p := (· = w.heap.size)) (q := ⟨w.heap.size, 1, none⟩) (Fx.setCell (p := (· = w.heap.size)) (q := ⟨w.heap.size, 0, none⟩) (Fx.refl _ w4) (.inl rfl) _) (.inl rfl) _
  have hs3 := hfr3.size
  have hs3 : w.heap.size < w3.heap.size := by simp at hs3; omega
  intro W hW
  exact hm4.out W ((hfx.mono (fun k e => by have e2 : k = w.heap.size := e; show k < _; omega)).trans (hW.mono (fun k e => by have e2 : k < w.heap.size := e; show k < _; omega)))
end Go.Proofs.YtphjfalibnnohaaGreatDoor
