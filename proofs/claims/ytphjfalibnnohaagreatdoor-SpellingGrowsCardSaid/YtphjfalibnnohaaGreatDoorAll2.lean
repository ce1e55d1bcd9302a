/- spelling.All. -/
import Derived.Test.YtphjfalibnnohaaGreatDoorAll
namespace Go.Proofs.YtphjfalibnnohaaGreatDoor
open Go.RowKit Go.Lib

/-- the first error of All, the notation being right -/
def allE9 (d n a : Nat) (R : List Int) (most : Int) : Int := if rowE R ≠ 0 then rowE R else if R.length ≠ d then 5 else boundE n a most
/-- spellings and no error, or an error -/
def AllRetE (w : World) (L : List (Nat × List Int)) (err : Int) (e : Ending) (w' : World) : Prop :=
  (err = 0 → ∃ a c xs, e = .returned (.tuple #[.slice a xs.length c, .int .i64 0]) ∧ OwnSp w' w.heap.size a c xs ∧ xs.map stripX = L) ∧ (err ≠ 0 → e = .returned (.tuple #[.slice none 0 0, .int .i64 err])) ∧ Fr w w'
def allL (N A : List Sy) (R : List Int) (m : Nat) : List (Nat × List Int) := sortS ((boxL m A.length N.length).filter fun s => decide (sumS N A s = R))

theorem OwnSp.mono {w : World} {base base' : Nat} {a : Option Addr} {c : Nat} {xs : List BX} (h : OwnSp w base a c xs) (hb : base' ≤ base) : OwnSp w base' a c xs :=
  ⟨ownsRow_mono h.own hb, fun x hx => ⟨Nat.le_trans hb (h.el x hx).1, (h.el x hx).2⟩⟩
theorem boundE_size {n a m : Nat} (hn : n ≤ 60) (h : boundE n a m = 0) : n * (2 * m + 1) ^ a ≤ 20000 := by
  unfold boundE at h
  rw [if_neg (by omega)] at h
  exact bdE_size a n (by omega) h

set_option maxRecDepth 100000 in
set_option maxHeartbeats 4000000 in
theorem All_any (d : Nat) (aN aA : Option Addr) (cN cA : Nat) (N A : List Sy) (R : List Int) (ra : Option Addr) (rc : Nat) (most : Int) (w : World) (hn : NotIs w aN aA cA N A) (hok : NotOk d N A) (hd : 1 ≤ d) (hR : El w iv ra R) (hRl : R.length ≤ 1000000) (hm : boundE N.length A.length most = 0 → most ≤ 20000) :
    Calls Tryz.prog 9 #[.agg #[.slice aN N.length cN, .slice aA A.length cA], .slice ra R.length rc, .int .i64 most] w (AllRetE w (allL N A R most.toNat) (allE9 d N.length A.length R most)) := by
  have hn1 := hok.n1
  have hn60 := hok.n60
  have ha6 := hok.a6
  have hd12 := hok.d12
  have hchk := fun W (hW : Fr w W) => SCheck_ok d aN aA cN cA N A W (hn.fr hW) hok
  have hrow := fun W (hW : Fr w W) => Check_row R ra rc W (hR.fr hW) (by omega)
  have hbnd := fun W => bound_any aN aA cN cA N.length A.length most W (by omega) (by omega)
  obtain ⟨b, o, x, rfl, hbl, hxi, hc1, hc2, -⟩ := hn.noms.at hn1
  have hrl := hok.row x (List.mem_append_left _ (List.mem_of_getElem? hxi))
  rw [hrl, Nat.zero_mul, Nat.add_zero] at hc2
  have hall : boundE N.length A.length most = 0 → ∀ W, Fr w W → Calls Tryz.prog 38 #[.agg #[.slice (some ⟨b, o, none⟩) N.length cN, .slice aA A.length cA], .slice ra R.length rc, .int .i64 most] W (AllRet W (allL N A R most.toNat)) := fun h0 W hW => by
    have h1 : 0 ≤ most := by
      by_cases h : most < 0
      · unfold boundE at h0; rw [if_pos h] at h0; omega
      · omega
    have h2 := hm h0
    obtain ⟨m, rfl⟩ : ∃ m : Nat, most = m := ⟨most.toNat, by omega⟩
    have h3 := boundE_size hn60 h0
    exact all_any d (some ⟨b, o, none⟩) aA cN cA N A R ra rc m W (hn.fr hW) hok hd (hR.fr hW) hRl (by omega) (by rw [boxL_size]; omega)
  obtain ⟨L, hL⟩ : ∃ L, L = allL N A R most.toNat := ⟨_, rfl⟩
  rw [← hL] at hall ⊢
  obtain ⟨err, herr⟩ : ∃ err, err = allE9 d N.length A.length R most := ⟨_, rfl⟩
  rw [← herr]
  unfold allE9 at herr
  generalize hbe : boundE N.length A.length most = be at *
  obtain ⟨nR, hnR⟩ : ∃ nR, nR = R.length := ⟨_, rfl⟩
  rw [← hnR] at hrow hall herr hRl ⊢
  generalize N.length = nN at *
  generalize A.length = nA at *
  generalize rowE R = re at *
  clear hn hok hR hm hxi hc1 hrl
  have p1 := new2a w (.slice (some ⟨b, o, none⟩) nN cN) (.slice aA nA cA) 30
  have p2 := new2b w (.slice (some ⟨b, o, none⟩) nN cN) (.slice aA nA cA) 30
  have hfA : Fr w (w.alloc (.cells #[.slice (some ⟨b, o, none⟩) nN cN, .slice aA nA cA] 30)) := (Fr.refl w).alloc _
  have p3 := hfA.keep hc2
  replace hfA := Lib.hid hfA
  replace p1 := Lib.hid p1.1
  replace p2 := Lib.hid p2.1
  replace p3 := Lib.hid p3
  replace hchk := Lib.hid hchk
  replace hrow := Lib.hid hrow
  replace hbnd := Lib.hid hbnd
  replace hall := Lib.hid hall
  replace hbe := Lib.hid hbe
  replace hL := Lib.hid hL
  replace hnR := Lib.hid hnR
  clear hc2
  by_cases h1 : re = 0
  · subst h1
    rw [if_neg (by simp)] at herr
    by_cases h2 : nR = d
    · rw [if_neg (by simp [h2])] at herr
      have q2 : ((nR : Int) != d) = false := by rw [h2]; simp
      replace h2 := Lib.hid h2
      by_cases h3 : be = 0
      · subst h3
        subst herr
        go_enter Tryz.func9, Tryz.ntmps9
        go_wp2_with fail
        refine (hchk.out _ hfA.out).mono ?_
        rintro e w1 ⟨rfl, hf1⟩
        go_wp2_with fail
        refine (hrow.out _ (hfA.out.trans hf1)).mono ?_
        rintro e w2 ⟨rfl, hf2⟩
        have y1 := (hf1.trans hf2).keep p1.out
        have y2 := (hf1.trans hf2).keep p2.out
        have y3 := (hf1.trans hf2).keep p3.out
        have hfw := hfA.out.trans (hf1.trans hf2)
        clear hf1 hf2
        go_wp2_with fail
        refine (hbnd.out _).mono ?_
        rintro e w3 ⟨rfl, hf3⟩
        replace y1 := hf3.keep y1
        replace y2 := hf3.keep y2
        go_wp2_with fail
        have hf4 := hfw.trans hf3
        refine (hall.out (by simp) _ hf4).mono ?_
        rintro e w4 ⟨a4, c4, xs, rfl, hown, hxs, hf5⟩
        have hfin := Lib.hid (hown.mono hf4.size)
        replace hxs := Lib.hid hxs
        go_wp2_with fail
        go_ret2
        exact ⟨fun _ => ⟨a4, c4, xs, rfl, hfin.out, hxs.out⟩, fun h => absurd rfl h, hf4.trans hf5⟩
      · have q3 : (be != 0) = true := by rw [bne_iff_ne]; exact h3
        subst herr
        go_enter Tryz.func9, Tryz.ntmps9
        go_wp2_with fail
        refine (hchk.out _ hfA.out).mono ?_
        rintro e w1 ⟨rfl, hf1⟩
        go_wp2_with fail
        refine (hrow.out _ (hfA.out.trans hf1)).mono ?_
        rintro e w2 ⟨rfl, hf2⟩
        have y1 := (hf1.trans hf2).keep p1.out
        have y2 := (hf1.trans hf2).keep p2.out
        have y3 := (hf1.trans hf2).keep p3.out
        have hfw := hfA.out.trans (hf1.trans hf2)
        clear hf1 hf2
        go_wp2_with fail
        refine (hbnd.out _).mono ?_
        rintro e w3 ⟨rfl, hf3⟩
        go_wp2_with fail
        go_ret2
        exact ⟨fun h => absurd h h3, fun _ => rfl, hfw.trans hf3⟩
    · rw [if_pos h2] at herr
      subst herr
      have q2 : ((nR : Int) != d) = true := by rw [bne_iff_ne]; omega
      replace h2 := Lib.hid h2
      go_enter Tryz.func9, Tryz.ntmps9
      go_wp2_with fail
      refine (hchk.out _ hfA.out).mono ?_
      rintro e w1 ⟨rfl, hf1⟩
      go_wp2_with fail
      refine (hrow.out _ (hfA.out.trans hf1)).mono ?_
      rintro e w2 ⟨rfl, hf2⟩
      have y1 := (hf1.trans hf2).keep p1.out
      have y2 := (hf1.trans hf2).keep p2.out
      have y3 := (hf1.trans hf2).keep p3.out
      have hfw := hfA.out.trans (hf1.trans hf2)
      clear hf1 hf2
      go_wp2_with fail
      go_ret2
      exact ⟨fun h => absurd h (by decide), fun _ => rfl, hfw⟩
  · rw [if_pos h1] at herr
    have q1 : (re != 0) = true := by rw [bne_iff_ne]; exact h1
    subst herr
    go_enter Tryz.func9, Tryz.ntmps9
    go_wp2_with fail
    refine (hchk.out _ hfA.out).mono ?_
    rintro e w1 ⟨rfl, hf1⟩
    go_wp2_with fail
    refine (hrow.out _ (hfA.out.trans hf1)).mono ?_
    rintro e w2 ⟨rfl, hf2⟩
    go_wp2_with fail
    go_ret2
    exact ⟨fun h => absurd h h1, fun _ => rfl, hfA.out.trans (hf1.trans hf2)⟩
end Go.Proofs.YtphjfalibnnohaaGreatDoor
