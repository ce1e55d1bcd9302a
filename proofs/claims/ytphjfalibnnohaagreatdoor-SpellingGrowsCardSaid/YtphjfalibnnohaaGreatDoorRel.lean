/- spelling.Relations where the kernel has one row with a positive head. -/
import Derived.Test.YtphjfalibnnohaaGreatDoorNot
import Derived.Test.YtphjfalibnnohaaGreatDoorOf
import Derived.Test.YtphjfalibnnohaaGreatDoorOwn
namespace Go.Proofs.YtphjfalibnnohaaGreatDoor
open Go.RowKit Go.Lib
attribute [local go_sem ↓] Go.wp_at_zero Go.wp_at_succ

theorem infoMat : (Tryz.prog.info? 33).map (fun i => (i.zero, i.size, i.bytes)) = some (some (.slice none 0 0), 1, 24) := by kernel_rfl

/-- the cells of a matrix of ints -/
def rowVs (A : List Sy) : List Value := A.map fun x => .slice x.ra x.row.length x.rc
theorem rowVs_mat {w w' : World} {base : Nat} {g n cap : Nat} {A : List Sy} (h : w'.ownsRow base 33 1 (.slice (some ⟨g, 0, none⟩) n cap) n (rowVs A)) (hel : ∀ x, x ∈ A → El w iv x.ra x.row) (hf : Fr w w') : MatIs w' (some ⟨g, 0, none⟩) (A.map Sy.row) := by
  obtain ⟨-, -, hg, -, hc⟩ := ownsRow_some h
  refine .inr ⟨g, 0, rfl, hg, fun i xs hx => ?_⟩
  rw [List.getElem?_map] at hx
  cases hA : A[i]? with
  | none => rw [hA] at hx; simp at hx
  | some x =>
    rw [hA] at hx
    injection hx with hx
    subst hx
    refine ⟨x.ra, x.rc, ?_, (hel x (List.mem_of_getElem? hA)).fr hf⟩
    rw [Nat.zero_add]
    exact (hc i _ (by unfold rowVs; rw [List.getElem?_map, hA]; rfl)).1

def RelRet (w : World) (m : List (List Int)) (e : Ending) (w' : World) : Prop := ∃ a c, e = .returned (.tuple #[.slice a m.length c, .int .i64 0]) ∧ MatIs w' a m ∧ Fr w w'

set_option maxRecDepth 100000 in
set_option maxHeartbeats 4000000 in
theorem Relations_one (d F : Nat) (aN aA : Option Addr) (cN cA : Nat) (N A : List Sy) (x : Int) (xs : List Int) (w : World) (hG : G w) (hn : NotIs w aN aA cA N A) (hok : NotOk d N A) (hd : 1 ≤ d) (hA : 1 ≤ A.length) (hk : kerS F d (A.map Sy.row) = some [x :: xs]) (hx : 0 < x) (hxl : (x :: xs).length = A.length) (hfit : ∀ y, y ∈ x :: xs → fitB y = true) :
    Calls Tryz.prog 35 #[.agg #[.slice aN N.length cN, .slice aA A.length cA]] w (RelRet w [x :: xs]) := by
  obtain ⟨i0, hi, hz0, hz1, hz2⟩ := info_parts infoMat
  have hn60 := hok.n60
  have ha6 := hok.a6
  have hd12 := hok.d12
  have hchk := fun W (hW : Fr w W) => SCheck_ok d aN aA cN cA N A W (hn.fr hW) hok
  have hacc := hn.accs
  have htab : TabOk d (A.map Sy.row) := ⟨by rw [List.length_map]; omega, hd12, fun r hr => by obtain ⟨z, hz, rfl⟩ := List.mem_map.1 hr; exact hok.row z (List.mem_append_right _ hz), fun r hr y hy => by obtain ⟨z, hz, rfl⟩ := List.mem_map.1 hr; exact hok.fit z (List.mem_append_right _ hz) y hy⟩
  have hker := fun W (hW : Fr w W) a cap (hm : MatIs W a (A.map Sy.row)) => Kernel_any (A.map Sy.row) [x :: xs] a cap d F W (hG.fr hW) hm htab hd (by rw [List.length_map]; exact hA) hk
  have hof := fun W (hW : Fr w W) a cap (hm : MatIs W a [x :: xs]) => Of_one x xs a cap A.length W (hG.fr hW) hm ⟨by simp, by omega, fun r hr => by simp at hr; subst hr; exact hxl, fun r hr y hy => by simp at hr; subst hr; exact hfit y hy⟩ hx hA
  obtain ⟨n, hnn⟩ : ∃ n, n = A.length := ⟨_, rfl⟩
  rw [List.length_map] at hker
  have hone : ([x :: xs] : List (List Int)).length = 1 := rfl
  rw [← hnn] at hchk hker hof hA ha6 ⊢
  replace hchk := Lib.hid hchk
  replace hker := Lib.hid hker
  replace hof := Lib.hid hof
  replace hacc := Lib.hid hacc
  replace hnn := Lib.hid hnn
  replace hone := Lib.hid hone
  have p1 := new2a w (.slice aN N.length cN) (.slice aA n cA) 30
  have p2 := new2b w (.slice aN N.length cN) (.slice aA n cA) 30
  have hfA : Fr w (w.alloc (.cells #[.slice aN N.length cN, .slice aA n cA] 30)) := (Fr.refl w).alloc _
  replace hfA := Lib.hid hfA
  replace p1 := Lib.hid p1.1
  replace p2 := Lib.hid p2.1
  clear hn hok hk htab hfit hG
  go_enter Tryz.func35, Tryz.ntmps35
  go_wp2_with fail
  refine (hchk.out _ hfA.out).mono ?_
  rintro e w1 ⟨rfl, hf1⟩
  have q1 := hf1.keep p1.out
  have q2 := hf1.keep p2.out
  have hfw := hfA.out.trans hf1
  clear p1 p2 hfA hf1 hchk
  go_wp2_with fail
  go_loopg [5, 19] n (fun k s5 s19 wr => ∃ j : Nat, s19 = .int .i64 j ∧ j + k = n ∧ Fr w1 wr ∧ wr.ownsRow w1.heap.size 33 1 s5 j (rowVs (A.take j)))
  case atStart => exact ⟨0, rfl, by omega, Fr.refl _, World.ownsRow_nil _ _ _ _⟩
  case round =>
    obtain ⟨j, rfl, hjk, hf, hown⟩ := hrel
    by_cases hj : j < n
    · have hdJ : decide (j < n) = true := decide_eq_true hj
      obtain ⟨b, o, y, rfl, hb, hyj, hc1, hc2, -⟩ := (hacc.out.fr (hfw.trans hf)).at (i := j) (by rw [← hnn.out]; exact hj)
      have hsn : rowVs (A.take (j + 1)) = rowVs (A.take j) ++ [.slice y.ra y.row.length y.rc] := by unfold rowVs; rw [take_snoc hyj, List.map_append]; rfl
      generalize y.row.length = yl at *
      generalize y.ra = ya at *
      generalize y.rc = yc at *
      generalize y.nm = nm at *
      replace hsn := Lib.hid hsn
      clear hyj
      have a1 := new2a wr (.string nm) (.slice ya yl yc) 35
      have a2 := new2b wr (.string nm) (.slice ya yl yc) 35
      have y1 : (j : Int) < (n : Int) := by omega
      have y0 : (0 : Int) ≤ (j : Int) := by omega
      have hfB : Fr wr (wr.alloc (.cells #[.string nm, .slice ya yl yc] 35)) := (Fr.refl wr).alloc _
      have hownB := ownsRow_fr hown hfB
      replace hfB := Lib.hid hfB
      have hz9 := hf.size
      replace a1 := Lib.hid a1.1
      replace a2 := a2.1
      go_wp2_with (at_builtin; refine wpList_append_lies _ rfl _ _ 77 (by rfl) w1.heap.size 33 i0 _ 1 24 Tryz.underlying77 hi hz0 hz1 hz2 rfl (by decide) _ j _ (by rfl) (World.ownsRow.alloc hownB _) ⟨wr.heap.size + 1, 0, none⟩ 1 1 [.slice ya yl yc] (by rfl) rfl (cell_one_newN _ _ _ _ (by simp)) (by simp [Value.oneCell']) (by decide) (by unfold maxLen; omega) (by omega) (by simp; omega) (wr.heap.size + 1 + 1) (by simp) ?_; intro gA capA wA hownA hgrowA hatA hltA)
      rw [← hsn.out] at hownA
      have hfZ : Fr w1 wA := ((hf.trans hfB.out).alloc _).grown hgrowA (fun k e => ownsRow_own_ge hown k e)
      go_wp2_with fail
      go_roundg (gk - 1)
      case measure => omega
      case rel => exact ⟨j + 1, by go_num, by omega, hfZ, hownA⟩
    · obtain rfl : j = n := by omega
      have hdJ : decide (j < j) = false := decide_eq_false (by omega)
      obtain ⟨g, cap, rfl⟩ := ownsRow_pos hown hA
      rw [List.take_of_length_le (by rw [← hnn.out]; exact Nat.le_refl _)] at hown
      have hmat := rowVs_mat hown hacc.out.2 (hfw.trans hf)
      have hk1 := hker.out _ (hfw.trans hf) _ cap hmat
      replace hk1 := Lib.hid hk1
      clear hown hmat hker
      go_wp2_with fail
      refine hk1.out.mono ?_
      rintro e w2 ⟨a2, c2, rfl, hm2, hf2⟩
      rw [hone.out]
      have hl1 := hof.out w2 ((hfw.trans hf).trans hf2) a2 c2 hm2
      replace hl1 := Lib.hid hl1
      clear hof hm2
      go_wp2_with fail
      refine hl1.out.mono ?_
      rintro e w3 ⟨a3, c3, rfl, hm3, hf3⟩
      rw [hone.out]
      have hfin := Lib.hid (show ∀ W, Fr w3 W → RelRet w [x :: xs] (.returned (.tuple #[.slice a3 1 c3, .int .i64 0])) W from fun W hW => ⟨a3, c3, rfl, hm3 W (Fx.of_fr hW), ((hfw.trans hf).trans hf2).trans (hf3.trans hW)⟩)
      clear hm3
      go_wp2_with fail
      go_ret2
      exact hfin.out _ ((Fr.refl _).alloc _)
end Go.Proofs.YtphjfalibnnohaaGreatDoor
