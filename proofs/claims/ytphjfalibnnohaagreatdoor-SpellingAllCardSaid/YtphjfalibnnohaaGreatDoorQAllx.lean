/-
  Contracts and laws for the statements of the law 43 of the seat, QAllx.
-/
import Derived.Test.YtphjfalibnnohaaGreatDoorQJ

/- schismalaw43.SpellingAll returns true. -/
namespace Go.Proofs.YtphjfalibnnohaaGreatDoor
open Go.RowKit Go.Lib
attribute [local go_sem ↓] Go.wp_at_zero Go.wp_at_succ

set_option maxRecDepth 100000 in
set_option maxHeartbeats 1000000 in
theorem equalO_any (j : Nat) (ds : List Int) (da : Option Addr) (dc : Nat) (i : Nat) (cs : List Int) (ca : Option Addr) (cc : Nat) (W : World) (hx : El W iv da ds) (hy : El W iv ca cs) (hl : ds.length ≤ 1000000) (hl2 : cs.length ≤ 1000000) :
    Calls Tryz.prog 24 #[.agg #[.int .i64 j, .slice da ds.length dc], .agg #[.int .i64 i, .slice ca cs.length cc]] W fun e W' => e = .returned (.bool (decide ((j, ds) = (i, cs)))) ∧ Fr W W' := by
  have heq := fun W' (hW' : Fr W W') => Equal_row ds cs da ca dc cc W' (hx.fr hW') (hy.fr hW') (by omega) (by omega)
  have hfA : Fr W ((W.alloc (.cells #[.int .i64 j, .slice da ds.length dc] 42)).alloc (.cells #[.int .i64 i, .slice ca cs.length cc] 42)) := ((Fr.refl W).alloc _).alloc _
  have hst : decide ((j, ds) = (i, cs)) = (decide (j = i) && decide (ds = cs)) := by
    by_cases h1 : j = i <;> by_cases h2 : ds = cs <;> simp [h1, h2]
  rw [hst]
  replace heq := Lib.hid (heq _ hfA)
  replace hfA := Lib.hid hfA
  generalize decide (ds = cs) = q at *
  generalize ds.length = xl at *
  generalize cs.length = yl at *
  clear hx hy hst
  by_cases h1 : j = i
  · have hd : decide (j = i) = true := decide_eq_true h1
    have hd2 : ((j : Int) == (i : Int)) = true := by rw [h1]; simp
    rw [hd]
    clear h1 hd
    go_enter Tryz.func24, Tryz.ntmps24
    go_wp2_with fail
    refine heq.out.mono ?_
    rintro e w2 ⟨rfl, hf2⟩
    go_wp2_with fail
    go_ret
    exact ⟨rfl, hfA.out.trans hf2⟩
  · have hd : decide (j = i) = false := decide_eq_false h1
    have hd2 : ((j : Int) == (i : Int)) = false := beq_false_of_ne (by omega)
    rw [hd]
    clear h1 hd
    go_enter Tryz.func24, Tryz.ntmps24
    go_wp2_with fail
    go_ret
    exact ⟨rfl, hfA.out⟩
theorem equal_zero (W : World) : Calls Tryz.prog 24 #[.agg #[.int .i64 0, .slice none 0 0], .agg #[.int .i64 0, .slice none 0 0]] W fun e W' => e = .returned (.bool true) ∧ Fr W W' := by
  have h := equalO_any 0 [] none 0 0 [] none 0 W (.inl rfl) (.inl rfl) (by simp) (by simp)
  rw [decide_eq_true (rfl : ((0 : Nat), ([] : List Int)) = (0, []))] at h
  exact h

set_option maxRecDepth 100000 in
set_option maxHeartbeats 4000000 in
theorem SpellingAll_any (two : Bool) (nn na r0 r1 r2 r3 r4 r5 r6 r7 r8 r9 r10 r11 r12 r13 most : Int) (R : List Int) (ra : Option Addr) (rc : Nat) (w : World) (hG : G w) (hnn : 0 ≤ nn ∧ nn ≤ 255) (hna : 0 ≤ na ∧ na ≤ 255) (hr : ∀ x, x ∈ [r0, r1, r2, r3, r4, r5, r6, r7, r8, r9, r10, r11, r12, r13] → fits8 x) (hR : El w iv ra R) :
    Calls Tryz.prog 5 #[.agg #[.bool two, .int .u8 nn, .int .u8 na, .int .i8 r0, .int .i8 r1, .int .i8 r2, .int .i8 r3, .int .i8 r4, .int .i8 r5, .int .i8 r6, .int .i8 r7, .int .i8 r8, .int .i8 r9, .int .i8 r10, .int .i8 r11, .int .i8 r12, .int .i8 r13], .slice ra R.length rc, .int .i64 most] w fun e w' => e = .returned (.bool true) ∧ Fr w w' := by
  obtain ⟨nR, hnR⟩ : ∃ nR, nR = R.length := ⟨_, rfl⟩
  rw [← hnR]
  replace hnR := Lib.hid hnR
  replace hR := Lib.hid hR
  obtain ⟨wb, hwb⟩ : ∃ wb, wb = alls w [(.cells #[.bool two, .int .u8 nn, .int .u8 na, .int .i8 r0, .int .i8 r1, .int .i8 r2, .int .i8 r3, .int .i8 r4, .int .i8 r5, .int .i8 r6, .int .i8 r7, .int .i8 r8, .int .i8 r9, .int .i8 r10, .int .i8 r11, .int .i8 r12, .int .i8 r13] 26)] := ⟨_, rfl⟩
  have hfb : Fr w wb := by rw [hwb]; exact alls_fr _ w
  have g0 : wb.heap[w.heap.size]? = some (.cells #[.bool two, .int .u8 nn, .int .u8 na, .int .i8 r0, .int .i8 r1, .int .i8 r2, .int .i8 r3, .int .i8 r4, .int .i8 r5, .int .i8 r6, .int .i8 r7, .int .i8 r8, .int .i8 r9, .int .i8 r10, .int .i8 r11, .int .i8 r12, .int .i8 r13] 26 (0, 0)) := by rw [hwb]; exact alls_get _ w 0 _ rfl
  have p0 : wb.cell? ⟨w.heap.size, 0, none⟩ = some (.bool two) := cells_of g0 0
  have p1 : wb.cell? ⟨w.heap.size, 1, none⟩ = some (.int .u8 nn) := cells_of g0 1
  have p2 : wb.cell? ⟨w.heap.size, 2, none⟩ = some (.int .u8 na) := cells_of g0 2
  have p3 : wb.cell? ⟨w.heap.size, 3, none⟩ = some (.int .i8 r0) := cells_of g0 3
  have p4 : wb.cell? ⟨w.heap.size, 4, none⟩ = some (.int .i8 r1) := cells_of g0 4
  have p5 : wb.cell? ⟨w.heap.size, 5, none⟩ = some (.int .i8 r2) := cells_of g0 5
  have p6 : wb.cell? ⟨w.heap.size, 6, none⟩ = some (.int .i8 r3) := cells_of g0 6
  have p7 : wb.cell? ⟨w.heap.size, 7, none⟩ = some (.int .i8 r4) := cells_of g0 7
  have p8 : wb.cell? ⟨w.heap.size, 8, none⟩ = some (.int .i8 r5) := cells_of g0 8
  have p9 : wb.cell? ⟨w.heap.size, 9, none⟩ = some (.int .i8 r6) := cells_of g0 9
  have p10 : wb.cell? ⟨w.heap.size, 10, none⟩ = some (.int .i8 r7) := cells_of g0 10
  have p11 : wb.cell? ⟨w.heap.size, 11, none⟩ = some (.int .i8 r8) := cells_of g0 11
  have p12 : wb.cell? ⟨w.heap.size, 12, none⟩ = some (.int .i8 r9) := cells_of g0 12
  have p13 : wb.cell? ⟨w.heap.size, 13, none⟩ = some (.int .i8 r10) := cells_of g0 13
  have p14 : wb.cell? ⟨w.heap.size, 14, none⟩ = some (.int .i8 r11) := cells_of g0 14
  have p15 : wb.cell? ⟨w.heap.size, 15, none⟩ = some (.int .i8 r12) := cells_of g0 15
  have p16 : wb.cell? ⟨w.heap.size, 16, none⟩ = some (.int .i8 r13) := cells_of g0 16
  have hmk := Lib.hid (Plan_any two nn na r0 r1 r2 r3 r4 r5 r6 r7 r8 r9 r10 r11 r12 r13 wb hnn hna hr)
  have hkn := Lib.hid (fun W (hW : Fr w W) => known_any W (hG.fr hW))
  clear g0 hr
  replace hfb := Lib.hid hfb
  go_enter Tryz.func5, Tryz.ntmps5
  go_upto_region 1 with (fail)
  change Code.wp _ _ _ _ (alls w [(.cells #[.bool two, .int .u8 nn, .int .u8 na, .int .i8 r0, .int .i8 r1, .int .i8 r2, .int .i8 r3, .int .i8 r4, .int .i8 r5, .int .i8 r6, .int .i8 r7, .int .i8 r8, .int .i8 r9, .int .i8 r10, .int .i8 r11, .int .i8 r12, .int .i8 r13] 26)])
  rw [← hwb]
  clear hwb
  go_wp2_with fail
  refine hmk.out.mono ?_
  rintro e w2 ⟨aN, aA, cN, cA, N, A, d, rfl, hn, hok, hf2⟩
  clear p0 p1 p2 p3 p4 p5 p6 p7 p8 p9 p10 p11 p12 p13 p14 p15 p16 hmk hnn hna
  obtain ⟨nb, no, s0, hae, -, hs0, -, hs2, -⟩ := hn.noms.at hok.n1
  subst hae
  have hs0l := hok.ok.row s0 (List.mem_append_left _ (List.mem_of_getElem? hs0))
  rw [hs0l, Nat.zero_mul, Nat.add_zero] at hs2
  obtain ⟨nN, hnN⟩ : ∃ nN, nN = N.length := ⟨_, rfl⟩
  obtain ⟨nA, hnA⟩ : ∃ nA, nA = A.length := ⟨_, rfl⟩
  have hN1 := hok.n1
  have hN4 := hok.n4
  have hA3 := hok.a3
  have hd2 := hok.d2
  rw [← hnN] at hN1 hN4
  rw [← hnA] at hA3
  rw [← hnN, ← hnA]
  replace hnN := Lib.hid hnN
  replace hnA := Lib.hid hnA
  clear hs0 hs0l
  go_upto_region 2 with (fail)
  obtain ⟨w3, hw3⟩ : ∃ w3, w3 = w2.alloc (.cells #[.slice (some ⟨nb, no, none⟩) nN cN, .slice aA nA cA] 30) := ⟨_, rfl⟩
  have hf3 : Fr w2 w3 := by rw [hw3]; exact (Fr.refl _).alloc _
  have n0 : w3.cell? ⟨w2.heap.size, 0, none⟩ = some (.slice (some ⟨nb, no, none⟩) nN cN) := by rw [hw3]; exact (new2a _ _ _ _).1
  have n1 : w3.cell? ⟨w2.heap.size, 1, none⟩ = some (.slice aA nA cA) := by rw [hw3]; exact (new2b _ _ _ _).1
  rw [← hw3]
  clear hw3
  replace hs2 := hf3.keep hs2
  replace hn := Lib.hid (hn.fr hf3)
  have hfw := Lib.hid ((hfb.out.trans hf2).trans hf3)
  clear hf2 hf3 hfb
  replace hkn := Lib.hid (fun W (hW : Fr w3 W) => hkn.out W (hfw.out.trans hW))
  have hsm := Lib.hid (fun W => small_law (some ⟨nb, no, none⟩) aA cN cA nN nA most W hN4 hA3)
  by_cases h5 : 4 < nR
  · have d5 : decide ((4 : Int) < (nR : Int)) = true := decide_eq_true (by omega)
    go_wp2_with fail
    refine (hkn.out _ (Fr.refl _)).mono ?_
    rintro e w4 ⟨rfl, hf4⟩
    go_wp2_with fail
    refine (hkn.out _ hf4).mono ?_
    rintro e w5 ⟨rfl, hf5⟩
    go_wp2_with fail
    go_ret
    exact ⟨rfl, (hfw.out.trans hf4).trans hf5⟩
  · have d5 : decide ((4 : Int) < (nR : Int)) = false := decide_eq_false (by omega)
    by_cases hs : smallB nN nA most = true
    · rw [hs] at hsm
      go_wp2_with fail
      refine (hkn.out _ (Fr.refl _)).mono ?_
      rintro e w4 ⟨rfl, hf4⟩
      replace n0 := hf4.keep n0
      replace n1 := hf4.keep n1
      go_wp2_with fail
      refine (hsm.out _).mono ?_
      rintro e w5 ⟨rfl, hf5⟩
      replace n0 := hf5.keep n0
      replace n1 := hf5.keep n1
      have hf35 := hf4.trans hf5
      replace hs2 := hf35.keep hs2
      clear hf4 hf5
      have hRl : R.length ≤ 1000000 := by rw [← hnR.out]; omega
      have hmst : boundE N.length A.length most = 0 → most ≤ 20000 := fun hb => by rw [← hnN.out, ← hnA.out] at hb; have := small_le hs hb; omega
      have hAl := fun W (hW : Fr w3 W) => All_any d (some ⟨nb, no, none⟩) aA cN cA N A R ra rc most W (hn.out.fr hW) hok.ok hok.d1 (hR.out.fr (hfw.out.trans hW)) hRl hmst
      have hSi := fun W (hW : Fr w3 W) => Simplest_any d (some ⟨nb, no, none⟩) aA cN cA N A R ra rc most W (hn.out.fr hW) hok.ok hok.d1 (hR.out.fr (hfw.out.trans hW)) hRl hmst
      have hCk := fun W (hW : Fr w3 W) => Check_row R ra rc W (hR.out.fr (hfw.out.trans hW)) (by omega)
      have hBd := fun W => boundR_any (some ⟨nb, no, none⟩) aA cN cA nN nA most W (by omega) (by omega)
      unfold allE9 at hAl hSi
      rw [← hnN.out, ← hnA.out, ← hnR.out] at hAl hSi
      rw [← hnR.out] at hCk
      obtain ⟨E1, hE1⟩ : ∃ E1, E1 = rowE R := ⟨_, rfl⟩
      obtain ⟨E2, hE2⟩ : ∃ E2, E2 = boundE nN nA most := ⟨_, rfl⟩
      rw [← hE1, ← hE2] at hAl hSi
      rw [← hE1] at hCk
      rw [← hE2] at hBd
      clear hRl hmst
      by_cases e1 : E1 = 0
      · rw [if_neg (by rw [e1]; simp)] at hAl hSi
        have q1 : (E1 == 0) = true := by rw [e1]; rfl
        by_cases ed : nR = d
        · rw [if_neg (by rw [ed]; simp)] at hAl hSi
          have qd : ((nR : Int) != (d : Int)) = false := by rw [ed]; simp
          by_cases e2 : E2 = 0
          · have q2 : (E2 != 0) = false := by rw [e2]; rfl
            have q2' : (E2 == 0) = true := by rw [e2]; rfl
            have hm0 := bound_nn (hE2.symm.trans e2)
            have hm1 := small_le hs (hE2.symm.trans e2)
            obtain ⟨m, rfl⟩ : ∃ m : Nat, most = m := ⟨most.toNat, by omega⟩
            rw [Int.toNat_natCast] at hAl hSi
            have hbx := boundE_size (by omega) (hE2.symm.trans e2)
            have hP1 : (2 * m + 1) ^ nA ≤ 20000 := by
              have : 1 * (2 * m + 1) ^ nA ≤ nN * (2 * m + 1) ^ nA := Nat.mul_le_mul_right _ hN1
              omega
            have hRf := (rowE_inv (hE1.symm.trans e1)).2
            have hin := fun W (hW : Fr w3 W) => ints_any R ra rc W (hG.fr (hfw.out.trans hW)) (hR.out.fr (hfw.out.trans hW)) (by rw [← hnR.out]; omega) (fun x hx => by have := fitB_bd (hRf x hx); omega)
            have hal := fun W (hW : Fr w3 W) r9 c9 (h9 : El W sv r9 R) => all_law d (some ⟨nb, no, none⟩) aA cN cA N A R r9 c9 m W (hG.fr (hfw.out.trans hW)) (hn.out.fr hW) hok.ok h9 (by rw [← hnR.out]; omega) (by omega) (by rw [← hnA.out]; omega) (by rw [← hnN.out, ← hnA.out]; omega)
            have hLl : (allL N A R m).length ≤ 20000 := by
              unfold allL
              rw [(sortS_perm _).length_eq]
              refine Nat.le_trans (List.length_filter_le _ _) ?_
              rw [boxL_size, ← hnN.out, ← hnA.out]; exact hbx
            have hLm : ∀ s, s ∈ allL N A R m → s.2.length = nA := fun s hs => by
              unfold allL at hs
              have h1 := (sortS_perm _).mem_iff.1 hs
              rw [hnA.out]
              exact (boxL_mem (List.mem_filter.1 h1).1).2.1
            change ∀ W, Fr w3 W → ∀ r9 c9, El W sv r9 R → Calls _ _ _ W (AllRet W (allL N A R m)) at hal
            obtain ⟨L, hL⟩ : ∃ L, L = allL N A R m := ⟨_, rfl⟩
            rw [← hL] at hAl hSi hal hLl hLm
            rw [← hnR.out] at hin
            rw [← hnN.out, ← hnA.out] at hal
            replace e1 := Lib.hid e1
            replace e2 := Lib.hid e2
            replace ed := Lib.hid ed
            replace hE1 := Lib.hid hE1
            replace hE2 := Lib.hid hE2
            replace hAl := Lib.hid hAl
            replace hSi := Lib.hid hSi
            replace hCk := Lib.hid hCk
            replace hBd := Lib.hid hBd
            replace hin := Lib.hid hin
            replace hal := Lib.hid hal
            replace hLl := Lib.hid hLl
            replace hLm := Lib.hid hLm
            replace hL := Lib.hid hL
            clear hbx hP1 hRf
            go_wp2_with fail
            refine (hAl.out _ hf35).mono ?_
            rintro e w6 ⟨h6, -, hf6⟩
            obtain ⟨al, cl, xl, rfl, hownl, hxl3⟩ := h6 e2.out
            have hxl := Lib.hid hownl.bxs
            replace hxl3 := Lib.hid hxl3
            replace n0 := hf6.keep n0
            replace n1 := hf6.keep n1
            replace hs2 := hf6.keep hs2
            clear h6 hownl
            go_wp2_with fail
            refine (hSi.out _ (hf35.trans hf6)).mono ?_
            rintro e w7 ⟨-, h7, h8, hf7⟩
            replace h7 := h7 e2.out
            replace h8 := h8 e2.out
            by_cases hL0 : L = []
            · obtain rfl := h7 hL0
              clear h7 h8
              replace hL0 := Lib.hid hL0
              replace n0 := hf7.keep n0
              replace n1 := hf7.keep n1
              replace hs2 := hf7.keep hs2
              replace hxl := Lib.hid (hxl.out.fr hf7)
              have hf37 := (hf35.trans hf6).trans hf7
              clear hf6 hf7 hf35
              go_upto_region 6 with (fail)
              obtain ⟨w8, hw8⟩ : ∃ w8, w8 = w7.alloc (.cells #[.int .i64 0, .slice none 0 0] 42) := ⟨_, rfl⟩
              have hf8 : Fr w7 w8 := by rw [hw8]; exact (Fr.refl _).alloc _
              have s0 : w8.cell? ⟨w7.heap.size, 0, none⟩ = some (.int .i64 0) := by rw [hw8]; exact (new2a _ _ _ _).1
              have s1 : w8.cell? ⟨w7.heap.size, 1, none⟩ = some (.slice none 0 0) := by rw [hw8]; exact (new2b _ _ _ _).1
              rw [← hw8]
              clear hw8
              replace n0 := hf8.keep n0
              replace n1 := hf8.keep n1
              replace hs2 := hf8.keep hs2
              go_wp2_with fail
              refine (hCk.out _ (hf37.trans hf8)).mono ?_
              rintro e w9 ⟨rfl, hf9⟩
              replace n0 := hf9.keep n0
              replace n1 := hf9.keep n1
              replace hs2 := hf9.keep hs2
              replace s0 := hf9.keep s0
              replace s1 := hf9.keep s1
              replace hxl := Lib.hid (hxl.out.fr (hf8.trans hf9))
              have hf39 := (hf37.trans hf8).trans hf9
              have hf89 := hf8.trans hf9
              clear hf8 hf9 hf37
              go_wp2_with fail
              refine (hBd.out _).mono ?_
              rintro e w10 ⟨rfl, hf10⟩
              replace n0 := hf10.keep n0
              replace n1 := hf10.keep n1
              replace s0 := hf10.keep s0
              replace s1 := hf10.keep s1
              replace hxl := Lib.hid (hxl.out.fr hf10)
              replace hf89 := hf89.trans hf10
              replace hf39 := hf39.trans hf10
              clear hf10
              have hin8 := Lib.hid (fun W (hW : Fr w10 W) => hin.out W (hf39.trans hW))
              have hal8 := Lib.hid (fun W (hW : Fr w10 W) => hal.out W (hf39.trans hW))
              go_upto_region 13 with (fail)
              go_region_held3 (fun w' => w'.cell? ⟨w2.heap.size, 0, none⟩ = some (.slice (some ⟨nb, no, none⟩) nN cN) ∧ w'.cell? ⟨w2.heap.size, 1, none⟩ = some (.slice aA nA cA))
                (first | go_keep | (go_split_ands; refine ⟨?_, ?_⟩ <;> (refine Fr.keep (by assumption) ?_; assumption)))
                (first
                  | (go_at_call 27; (with_reducible refine (hin8.out _ ?_).mono ?_); (repeat (with_reducible first | assumption | exact Fr.refl _ | refine Fr.drew ?_ | refine Fr.drewN ?_ _ | refine Fr.alloc ?_ _ | (refine Fr.setCell ?_ (by simp only [World.size_alloc, World.size_drew, World.size_setCell]; omega) _) | refine Fr.trans ?_ (by assumption))); rintro e w11 ⟨a11, c11, rfl, he11, hc11, hf11⟩; replace he11 := Lib.hid he11)
                  | (go_at_call 21; have hz11 : Fr w10 w11 := (by repeat (with_reducible first | assumption | exact Fr.refl _ | refine Fr.drew ?_ | refine Fr.drewN ?_ _ | refine Fr.alloc ?_ _ | (refine Fr.setCell ?_ (by simp only [World.size_alloc, World.size_drew, World.size_setCell]; omega) _) | refine Fr.trans ?_ (by assumption))); (with_reducible refine (hal8.out _ hz11 _ _ he11.out).mono ?_); rintro e w12 ⟨a12, c12, xs, rfl, hown12, hx12, hf12⟩; replace hown12 := Lib.hid hown12; replace hx12 := Lib.hid hx12))
              all_goals
                have hf13 : Fr w10 w12 := hz11.trans hf12
                replace s0 := hf13.keep s0
                replace s1 := hf13.keep s1
                have hsame : xl.map stripX = xs.map stripX := by rw [hxl3.out, hx12.out]
                have hxc : ∀ x, x ∈ xl → x.cs.length ≤ 1000000 := fun x hx => by
                  have h1 : stripX x ∈ xl.map stripX := List.mem_map_of_mem hx
                  rw [hxl3.out] at h1
                  have h2 : x.cs.length = nA := hLm.out _ h1
                  omega
                have hyc : ∀ x, x ∈ xs → x.cs.length ≤ 1000000 := fun x hx => by
                  have h1 : stripX x ∈ xs.map stripX := List.mem_map_of_mem hx
                  rw [hx12.out] at h1
                  have h2 : x.cs.length = nA := hLm.out _ h1
                  omega
                have hxn : xl.length ≤ 1000000 := by
                  have h1 : xl.length = (xl.map stripX).length := (List.length_map _).symm
                  rw [hxl3.out] at h1
                  have := hLl.out
                  omega
                have hyn : xs.length ≤ 1000000 := by
                  have h1 : xs.length = (xs.map stripX).length := (List.length_map _).symm
                  rw [hx12.out] at h1
                  have := hLl.out
                  omega
                have hsm9 := same_any xl xs al a12 cl c12 w12 (hxl.out.fr hf13) hown12.out.bxs (by omega) (by omega) hxc hyc
                rw [decide_eq_true hsame] at hsm9
                replace hsm9 := Lib.hid hsm9
                replace hsame := Lib.hid hsame
                clear hxc
                replace hyc := Lib.hid hyc
                have hxnL := Lib.hid (show xs.length = L.length by rw [← hx12.out, List.length_map])
                have hx0 : decide (0 < xs.length) = false := decide_eq_false (by have h9 : xs.length = 0 := (by have h := hxnL.out; rw [hL0.out] at h; exact h); omega)
                go_wp2_with fail
                refine hsm9.out.mono ?_
                rintro e w13 ⟨rfl, hf14⟩
                replace s0 := hf14.keep s0
                replace s1 := hf14.keep s1
                go_wp2_with fail
                refine wp_region_held_drew (S := fun W => W.cell? ⟨w7.heap.size, 0, none⟩ = some (.int .i64 0) ∧ W.cell? ⟨w7.heap.size, 1, none⟩ = some (.slice none 0 0)) (by kernel_rfl) ⟨(Fr.refl w13).drew.keep s0, (Fr.refl w13).drew.keep s1⟩ (fun hHeld => ?_)
                refine wpAnyH_take (i := 0) (v := ?_) rfl (by kernel_rfl) (by kernel_rfl) (by kernel_rfl) (fun _ _ _ h => h) (Or.inl ⟨by rfl, ?_⟩) (by assumption) ?_
                rotate_left
                · (intro w hSw; (try dsimp only at hSw); go_simp; try (with_reducible rfl))
                change wpAnyH _ _ _ _ _ _ _ (Act.put _ (some 114) _) _
                simp only [Act.put, List.setIfInBounds_toArray, List.set_cons_zero, List.set_cons_succ]
                refine wpAnyH_take (i := 1) (v := ?_) rfl (by kernel_rfl) (by kernel_rfl) (by kernel_rfl) (fun _ _ _ h => h) (Or.inl ⟨by rfl, ?_⟩) (by assumption) ?_
                rotate_left
                · (intro w hSw; (try dsimp only at hSw); go_simp; try (with_reducible rfl))
                change wpAnyH _ _ _ _ _ _ _ (Act.put _ (some 115) _) _
                simp only [Act.put, List.setIfInBounds_toArray, List.set_cons_zero, List.set_cons_succ]
                refine wpAnyH_take (i := 2) (v := ?_) rfl (by kernel_rfl) (by kernel_rfl) (by kernel_rfl) (fun _ _ _ h => h) (Or.inl ⟨by rfl, ?_⟩) (by assumption) ?_
                rotate_left
                · (intro w hSw; (try dsimp only at hSw); go_simp; try (with_reducible rfl))
                change wpAnyH _ _ _ _ _ _ _ (Act.put _ (some 116) _) _
                simp only [Act.put, List.setIfInBounds_toArray, List.set_cons_zero, List.set_cons_succ]
                refine wpAnyH_take (i := 3) (v := ?_) rfl (by kernel_rfl) (by kernel_rfl) (by kernel_rfl) (fun _ _ _ h => h) (Or.inl ⟨by rfl, ?_⟩) (by assumption) ?_
                rotate_left
                · (intro w hSw; (try dsimp only at hSw); go_simp; try (with_reducible rfl))
                change wpAnyH _ _ _ _ _ _ _ (Act.put _ (some 117) _) _
                simp only [Act.put, List.setIfInBounds_toArray, List.set_cons_zero, List.set_cons_succ]
                refine wpAnyH_take (i := 4) (v := ?_) rfl (by kernel_rfl) (by kernel_rfl) (by kernel_rfl) (fun _ _ _ h => h) (Or.inl ⟨by rfl, ?_⟩) (by assumption) ?_
                rotate_left
                · (intro w hSw; (try dsimp only at hSw); go_simp; try (with_reducible rfl))
                change wpAnyH _ _ _ _ _ _ _ (Act.put _ (some 118) _) _
                simp only [Act.put, List.setIfInBounds_toArray, List.set_cons_zero, List.set_cons_succ]
                refine wpAnyH_ready (rs := [5]) (by kernel_rfl) (by simp) ?_
                refine AllReadyH.cons rfl (fun K hK => ?_) AllReadyH.nil
                go_simp
                (refine (equal_zero _).mono ?_; rintro e w14 ⟨rfl, hf15⟩)
                go_wp2_with fail
                refine hK.out _ _ (⟨((Fr.refl w13).drew.trans hf15).keep s0, ((Fr.refl w13).drew.trans hf15).keep s1⟩) (fun hHeld => ?_)
                clear hK K
                try simp only [Act.put, List.setIfInBounds_toArray, List.set_cons_zero, List.set_cons_succ]
                refine wpAnyH_take (i := 6) (v := ?_) rfl (by kernel_rfl) (by kernel_rfl) (by kernel_rfl) (fun _ _ _ h => h) (Or.inl ⟨by rfl, ?_⟩) (by assumption) ?_
                rotate_left
                · (intro w hSw; (try dsimp only at hSw); go_simp; try (with_reducible rfl))
                change wpAnyH _ _ _ _ _ _ _ (Act.put _ (some 120) _) _
                simp only [Act.put, List.setIfInBounds_toArray, List.set_cons_zero, List.set_cons_succ]
                refine wpAnyH_take (i := 7) (v := ?_) rfl (by kernel_rfl) (by kernel_rfl) (by kernel_rfl) (fun _ _ _ h => h) (Or.inl ⟨by rfl, ?_⟩) (by assumption) ?_
                rotate_left
                · (intro w hSw; (try dsimp only at hSw); go_simp; try (with_reducible rfl))
                change wpAnyH _ _ _ _ _ _ _ (Act.put _ (some 121) _) _
                simp only [Act.put, List.setIfInBounds_toArray, List.set_cons_zero, List.set_cons_succ]
                refine wpAnyH_take (i := 8) (v := undef) rfl (by kernel_rfl) (by kernel_rfl) (by kernel_rfl) (fun _ _ _ h => h) (Or.inr ⟨by rfl, rfl⟩) (by assumption) ?_
                change wpAnyH _ _ _ _ _ _ _ (Act.put _ (some 122) _) _
                simp only [Act.put, List.setIfInBounds_toArray, List.set_cons_zero, List.set_cons_succ]
                refine wpAnyH_take (i := 9) (v := undef) rfl (by kernel_rfl) (by kernel_rfl) (by kernel_rfl) (fun _ _ _ h => h) (Or.inr ⟨by rfl, rfl⟩) (by assumption) ?_
                change wpAnyH _ _ _ _ _ _ _ (Act.put _ (some 123) _) _
                simp only [Act.put, List.setIfInBounds_toArray, List.set_cons_zero, List.set_cons_succ]
                refine wpAnyH_take (i := 10) (v := undef) rfl (by kernel_rfl) (by kernel_rfl) (by kernel_rfl) (fun _ _ _ h => h) (Or.inr ⟨by rfl, rfl⟩) (by assumption) ?_
                change wpAnyH _ _ _ _ _ _ _ (Act.put _ (some 124) _) _
                simp only [Act.put, List.setIfInBounds_toArray, List.set_cons_zero, List.set_cons_succ]
                refine wpAnyH_take (i := 11) (v := undef) rfl (by kernel_rfl) (by kernel_rfl) (by kernel_rfl) (fun _ _ _ h => h) (Or.inr ⟨by rfl, rfl⟩) (by assumption) ?_
                change wpAnyH _ _ _ _ _ _ _ (Act.put _ (some 125) _) _
                simp only [Act.put, List.setIfInBounds_toArray, List.set_cons_zero, List.set_cons_succ]
                refine wpAnyH_take (i := 12) (v := undef) rfl (by kernel_rfl) (by kernel_rfl) (by kernel_rfl) (fun _ _ _ h => h) (Or.inr ⟨by rfl, rfl⟩) (by assumption) ?_
                change wpAnyH _ _ _ _ _ _ _ (Act.put _ (some 126) _) _
                simp only [Act.put, List.setIfInBounds_toArray, List.set_cons_zero, List.set_cons_succ]
                refine wpAnyH_take (i := 13) (v := undef) rfl (by kernel_rfl) (by kernel_rfl) (by kernel_rfl) (fun _ _ _ h => h) (Or.inr ⟨by rfl, rfl⟩) (by assumption) ?_
                change wpAnyH _ _ _ _ _ _ _ (Act.put _ (some 127) _) _
                simp only [Act.put, List.setIfInBounds_toArray, List.set_cons_zero, List.set_cons_succ]
                refine wpAnyH_take (i := 14) (v := undef) rfl (by kernel_rfl) (by kernel_rfl) (by kernel_rfl) (fun _ _ _ h => h) (Or.inr ⟨by rfl, rfl⟩) (by assumption) ?_
                change wpAnyH _ _ _ _ _ _ _ (Act.put _ (some 128) _) _
                simp only [Act.put, List.setIfInBounds_toArray, List.set_cons_zero, List.set_cons_succ]
                refine wpAnyH_take (i := 15) (v := undef) rfl (by kernel_rfl) (by kernel_rfl) (by kernel_rfl) (fun _ _ _ h => h) (Or.inr ⟨by rfl, rfl⟩) (by assumption) ?_
                change wpAnyH _ _ _ _ _ _ _ (Act.put _ (some 129) _) _
                simp only [Act.put, List.setIfInBounds_toArray, List.set_cons_zero, List.set_cons_succ]
                refine wpAnyH_take (i := 16) (v := ?_) rfl (by kernel_rfl) (by kernel_rfl) (by kernel_rfl) (fun _ _ _ h => h) (Or.inl ⟨by rfl, ?_⟩) (by assumption) ?_
                rotate_left
                · (intro w hSw; (try dsimp only at hSw); go_simp; try (with_reducible rfl))
                change wpAnyH _ _ _ _ _ _ _ (Act.put _ (some 130) _) _
                simp only [Act.put, List.setIfInBounds_toArray, List.set_cons_zero, List.set_cons_succ]
                refine wpAnyH_take (i := 17) (v := ?_) rfl (by kernel_rfl) (by kernel_rfl) (by kernel_rfl) (fun _ _ _ h => h) (Or.inl ⟨by rfl, ?_⟩) (by assumption) ?_
                rotate_left
                · (intro w hSw; (try dsimp only at hSw); go_simp; try (with_reducible rfl))
                change wpAnyH _ _ _ _ _ _ _ (Act.put _ (some 6) _) _
                simp only [Act.put, List.setIfInBounds_toArray, List.set_cons_zero, List.set_cons_succ]
                refine wpAnyH_done (by kernel_rfl) ?_ _
                have hfz := Lib.hid (show Fr w10 w14 from (hf13.trans hf14).trans ((Fr.refl w13).drew.trans hf15))
                go_wp2_with fail
                go_ret
                exact ⟨rfl, (hfw.out.trans hf39).trans hfz.out⟩
            · obtain ⟨s, Rs, hLs⟩ : ∃ s Rs, L = s :: Rs := by
                cases L with
                | nil => exact absurd rfl hL0
                | cons s Rs => exact ⟨s, Rs, rfl⟩
              obtain ⟨gs, cS, rfl, hels⟩ := h8 s Rs hLs
              obtain ⟨si, sc⟩ := s
              simp only at hels
              have hscl : sc.length = nA := hLm.out (si, sc) (by rw [hLs]; exact List.mem_cons_self ..)
              obtain ⟨ns, hns⟩ : ∃ ns, ns = sc.length := ⟨_, rfl⟩
              simp only
              rw [← hns]
              replace hns := Lib.hid hns
              replace hels := Lib.hid hels
              replace hLs := Lib.hid hLs
              replace hscl := Lib.hid hscl
              clear h7 h8 hL0
              replace n0 := hf7.keep n0
              replace n1 := hf7.keep n1
              replace hs2 := hf7.keep hs2
              replace hxl := Lib.hid (hxl.out.fr hf7)
              have hf37 := (hf35.trans hf6).trans hf7
              clear hf6 hf7 hf35
              go_upto_region 6 with (fail)
              obtain ⟨w8, hw8⟩ : ∃ w8, w8 = w7.alloc (.cells #[.int .i64 si, .slice (some ⟨gs, 0, none⟩) ns cS] 42) := ⟨_, rfl⟩
              have hf8 : Fr w7 w8 := by rw [hw8]; exact (Fr.refl _).alloc _
              have s0 : w8.cell? ⟨w7.heap.size, 0, none⟩ = some (.int .i64 si) := by rw [hw8]; exact (new2a _ _ _ _).1
              have s1 : w8.cell? ⟨w7.heap.size, 1, none⟩ = some (.slice (some ⟨gs, 0, none⟩) ns cS) := by rw [hw8]; exact (new2b _ _ _ _).1
              rw [← hw8]
              clear hw8
              replace n0 := hf8.keep n0
              replace n1 := hf8.keep n1
              replace hs2 := hf8.keep hs2
              go_wp2_with fail
              refine (hCk.out _ (hf37.trans hf8)).mono ?_
              rintro e w9 ⟨rfl, hf9⟩
              replace n0 := hf9.keep n0
              replace n1 := hf9.keep n1
              replace hs2 := hf9.keep hs2
              replace s0 := hf9.keep s0
              replace s1 := hf9.keep s1
              replace hxl := Lib.hid (hxl.out.fr (hf8.trans hf9))
              have hf39 := (hf37.trans hf8).trans hf9
              have hf89 := hf8.trans hf9
              clear hf8 hf9 hf37
              go_wp2_with fail
              refine (hBd.out _).mono ?_
              rintro e w10 ⟨rfl, hf10⟩
              replace n0 := hf10.keep n0
              replace n1 := hf10.keep n1
              replace s0 := hf10.keep s0
              replace s1 := hf10.keep s1
              replace hxl := Lib.hid (hxl.out.fr hf10)
              replace hf89 := hf89.trans hf10
              replace hf39 := hf39.trans hf10
              clear hf10
              have hin8 := Lib.hid (fun W (hW : Fr w10 W) => hin.out W (hf39.trans hW))
              have hal8 := Lib.hid (fun W (hW : Fr w10 W) => hal.out W (hf39.trans hW))
              go_upto_region 13 with (fail)
              go_region_held3 (fun w' => w'.cell? ⟨w2.heap.size, 0, none⟩ = some (.slice (some ⟨nb, no, none⟩) nN cN) ∧ w'.cell? ⟨w2.heap.size, 1, none⟩ = some (.slice aA nA cA))
                (first | go_keep | (go_split_ands; refine ⟨?_, ?_⟩ <;> (refine Fr.keep (by assumption) ?_; assumption)))
                (first
                  | (go_at_call 27; (with_reducible refine (hin8.out _ ?_).mono ?_); (repeat (with_reducible first | assumption | exact Fr.refl _ | refine Fr.drew ?_ | refine Fr.drewN ?_ _ | refine Fr.alloc ?_ _ | (refine Fr.setCell ?_ (by simp only [World.size_alloc, World.size_drew, World.size_setCell]; omega) _) | refine Fr.trans ?_ (by assumption))); rintro e w11 ⟨a11, c11, rfl, he11, hc11, hf11⟩; replace he11 := Lib.hid he11)
                  | (go_at_call 21; have hz11 : Fr w10 w11 := (by repeat (with_reducible first | assumption | exact Fr.refl _ | refine Fr.drew ?_ | refine Fr.drewN ?_ _ | refine Fr.alloc ?_ _ | (refine Fr.setCell ?_ (by simp only [World.size_alloc, World.size_drew, World.size_setCell]; omega) _) | refine Fr.trans ?_ (by assumption))); (with_reducible refine (hal8.out _ hz11 _ _ he11.out).mono ?_); rintro e w12 ⟨a12, c12, xs, rfl, hown12, hx12, hf12⟩; replace hown12 := Lib.hid hown12; replace hx12 := Lib.hid hx12))
              all_goals
                have hf13 : Fr w10 w12 := hz11.trans hf12
                replace s0 := hf13.keep s0
                replace s1 := hf13.keep s1
                have hsame : xl.map stripX = xs.map stripX := by rw [hxl3.out, hx12.out]
                have hxc : ∀ x, x ∈ xl → x.cs.length ≤ 1000000 := fun x hx => by
                  have h1 : stripX x ∈ xl.map stripX := List.mem_map_of_mem hx
                  rw [hxl3.out] at h1
                  have h2 : x.cs.length = nA := hLm.out _ h1
                  omega
                have hyc : ∀ x, x ∈ xs → x.cs.length ≤ 1000000 := fun x hx => by
                  have h1 : stripX x ∈ xs.map stripX := List.mem_map_of_mem hx
                  rw [hx12.out] at h1
                  have h2 : x.cs.length = nA := hLm.out _ h1
                  omega
                have hxn : xl.length ≤ 1000000 := by
                  have h1 : xl.length = (xl.map stripX).length := (List.length_map _).symm
                  rw [hxl3.out] at h1
                  have := hLl.out
                  omega
                have hyn : xs.length ≤ 1000000 := by
                  have h1 : xs.length = (xs.map stripX).length := (List.length_map _).symm
                  rw [hx12.out] at h1
                  have := hLl.out
                  omega
                have hsm9 := same_any xl xs al a12 cl c12 w12 (hxl.out.fr hf13) hown12.out.bxs (by omega) (by omega) hxc hyc
                rw [decide_eq_true hsame] at hsm9
                replace hsm9 := Lib.hid hsm9
                replace hsame := Lib.hid hsame
                clear hxc
                replace hyc := Lib.hid hyc
                have hxnL := Lib.hid (show xs.length = L.length by rw [← hx12.out, List.length_map])
                have hx9 : 0 < xs.length := by have h := hxnL.out; rw [hLs.out] at h; rw [h]; simp
                have hx0 : decide (0 < xs.length) = true := decide_eq_true hx9
                have hx1 : (0 : Int) < (xs.length : Int) := by omega
                obtain ⟨b9, o9, y, hae, -, hy0, y0, y1, hye⟩ := hown12.out.bxs.at (i := 0) hx9
                subst hae
                simp only [Nat.zero_mul, Nat.add_zero] at y0 y1
                have hyL : stripX y = (si, sc) := by
                  have h1 : (xs.map stripX)[0]? = some (stripX y) := by rw [List.getElem?_map, hy0]; rfl
                  rw [hx12.out, hLs.out] at h1
                  exact (Option.some.inj h1).symm
                have hyi : y.i = si := congrArg Prod.fst hyL
                have hyc2 : y.cs = sc := congrArg Prod.snd hyL
                rw [hyi] at y0
                rw [hyc2, ← hns.out] at y1
                rw [hyc2] at hye
                have heq9 := fun W (hW : Fr w12 W) => equalO_any si sc (some ⟨gs, 0, none⟩) cS si sc (some ⟨y.g, 0, none⟩) y.c W (hels.out.fr (((hf89.trans hf13)).trans hW)) (hye.fr hW) (by rw [← hns.out, hns.out, hscl.out]; omega) (by rw [← hns.out, hns.out, hscl.out]; omega)
                rw [decide_eq_true (rfl : (si, sc) = (si, sc)), ← hns.out] at heq9
                replace heq9 := Lib.hid heq9
                replace hye := Lib.hid hye
                clear hy0 hyL hyi hyc2
                obtain ⟨yg, hyg⟩ : ∃ yg, yg = y.g := ⟨_, rfl⟩
                obtain ⟨yc, hyc3⟩ : ∃ yc, yc = y.c := ⟨_, rfl⟩
                rw [← hyg, ← hyc3] at y1 heq9
                replace hyg := Lib.hid hyg
                replace hyc3 := Lib.hid hyc3
                go_wp2_with fail
                refine hsm9.out.mono ?_
                rintro e w13 ⟨rfl, hf14⟩
                replace s0 := hf14.keep s0
                replace s1 := hf14.keep s1
                replace y0 := hf14.keep y0
                replace y1 := hf14.keep y1
                go_wp2_with fail
                refine wp_region_held_drew (S := fun W => W.cell? ⟨w7.heap.size, 0, none⟩ = some (.int .i64 si) ∧ W.cell? ⟨w7.heap.size, 1, none⟩ = some (.slice (some ⟨gs, 0, none⟩) ns cS) ∧ W.cell? ⟨b9, o9, none⟩ = some (.int .i64 si) ∧ W.cell? ⟨b9, o9 + 1, none⟩ = some (.slice (some ⟨yg, 0, none⟩) ns yc)) (by kernel_rfl) ⟨(Fr.refl w13).drew.keep s0, (Fr.refl w13).drew.keep s1, (Fr.refl w13).drew.keep y0, (Fr.refl w13).drew.keep y1⟩ (fun hHeld => ?_)
                refine wpAnyH_take (i := 0) (v := ?_) rfl (by kernel_rfl) (by kernel_rfl) (by kernel_rfl) (fun _ _ _ h => h) (Or.inl ⟨by rfl, ?_⟩) (by assumption) ?_
                rotate_left
                · (intro w hSw; (try dsimp only at hSw); go_simp; try (with_reducible rfl))
                change wpAnyH _ _ _ _ _ _ _ (Act.put _ (some 114) _) _
                simp only [Act.put, List.setIfInBounds_toArray, List.set_cons_zero, List.set_cons_succ]
                refine wpAnyH_take (i := 1) (v := ?_) rfl (by kernel_rfl) (by kernel_rfl) (by kernel_rfl) (fun _ _ _ h => h) (Or.inl ⟨by rfl, ?_⟩) (by assumption) ?_
                rotate_left
                · (intro w hSw; (try dsimp only at hSw); go_simp; try (with_reducible rfl))
                change wpAnyH _ _ _ _ _ _ _ (Act.put _ (some 115) _) _
                simp only [Act.put, List.setIfInBounds_toArray, List.set_cons_zero, List.set_cons_succ]
                refine wpAnyH_take (i := 2) (v := ?_) rfl (by kernel_rfl) (by kernel_rfl) (by kernel_rfl) (fun _ _ _ h => h) (Or.inl ⟨by rfl, ?_⟩) (by assumption) ?_
                rotate_left
                · (intro w hSw; (try dsimp only at hSw); go_simp; try (with_reducible rfl))
                change wpAnyH _ _ _ _ _ _ _ (Act.put _ (some 116) _) _
                simp only [Act.put, List.setIfInBounds_toArray, List.set_cons_zero, List.set_cons_succ]
                refine wpAnyH_take (i := 3) (v := undef) rfl (by kernel_rfl) (by kernel_rfl) (by kernel_rfl) (fun _ _ _ h => h) (Or.inr ⟨by rfl, rfl⟩) (by assumption) ?_
                change wpAnyH _ _ _ _ _ _ _ (Act.put _ (some 117) _) _
                simp only [Act.put, List.setIfInBounds_toArray, List.set_cons_zero, List.set_cons_succ]
                refine wpAnyH_take (i := 4) (v := undef) rfl (by kernel_rfl) (by kernel_rfl) (by kernel_rfl) (fun _ _ _ h => h) (Or.inr ⟨by rfl, rfl⟩) (by assumption) ?_
                change wpAnyH _ _ _ _ _ _ _ (Act.put _ (some 118) _) _
                simp only [Act.put, List.setIfInBounds_toArray, List.set_cons_zero, List.set_cons_succ]
                refine wpAnyH_take (i := 5) (v := undef) rfl (by kernel_rfl) (by kernel_rfl) (by kernel_rfl) (fun _ _ _ h => h) (Or.inr ⟨by rfl, rfl⟩) (by assumption) ?_
                change wpAnyH _ _ _ _ _ _ _ (Act.put _ (some 119) _) _
                simp only [Act.put, List.setIfInBounds_toArray, List.set_cons_zero, List.set_cons_succ]
                refine wpAnyH_take (i := 6) (v := ?_) rfl (by kernel_rfl) (by kernel_rfl) (by kernel_rfl) (fun _ _ _ h => h) (Or.inl ⟨by rfl, ?_⟩) (by assumption) ?_
                rotate_left
                · (intro w hSw; (try dsimp only at hSw); go_simp; try (with_reducible rfl))
                change wpAnyH _ _ _ _ _ _ _ (Act.put _ (some 120) _) _
                simp only [Act.put, List.setIfInBounds_toArray, List.set_cons_zero, List.set_cons_succ]
                refine wpAnyH_take (i := 7) (v := ?_) rfl (by kernel_rfl) (by kernel_rfl) (by kernel_rfl) (fun _ _ _ h => h) (Or.inl ⟨by rfl, ?_⟩) (by assumption) ?_
                rotate_left
                · (intro w hSw; (try dsimp only at hSw); go_simp; try (with_reducible rfl))
                change wpAnyH _ _ _ _ _ _ _ (Act.put _ (some 121) _) _
                simp only [Act.put, List.setIfInBounds_toArray, List.set_cons_zero, List.set_cons_succ]
                refine wpAnyH_take (i := 8) (v := ?_) rfl (by kernel_rfl) (by kernel_rfl) (by kernel_rfl) (fun _ _ _ h => h) (Or.inl ⟨by rfl, ?_⟩) (by assumption) ?_
                rotate_left
                · (intro w hSw; (try dsimp only at hSw); go_simp; try (with_reducible rfl))
                change wpAnyH _ _ _ _ _ _ _ (Act.put _ (some 122) _) _
                simp only [Act.put, List.setIfInBounds_toArray, List.set_cons_zero, List.set_cons_succ]
                refine wpAnyH_take (i := 9) (v := ?_) rfl (by kernel_rfl) (by kernel_rfl) (by kernel_rfl) (fun _ _ _ h => h) (Or.inl ⟨by rfl, ?_⟩) (by assumption) ?_
                rotate_left
                · (intro w hSw; (try dsimp only at hSw); go_simp; try (with_reducible rfl))
                change wpAnyH _ _ _ _ _ _ _ (Act.put _ (some 123) _) _
                simp only [Act.put, List.setIfInBounds_toArray, List.set_cons_zero, List.set_cons_succ]
                refine wpAnyH_take (i := 10) (v := ?_) rfl (by kernel_rfl) (by kernel_rfl) (by kernel_rfl) (fun _ _ _ h => h) (Or.inl ⟨by rfl, ?_⟩) (by assumption) ?_
                rotate_left
                · (intro w hSw; (try dsimp only at hSw); go_simp; try (with_reducible rfl))
                change wpAnyH _ _ _ _ _ _ _ (Act.put _ (some 124) _) _
                simp only [Act.put, List.setIfInBounds_toArray, List.set_cons_zero, List.set_cons_succ]
                refine wpAnyH_take (i := 11) (v := ?_) rfl (by kernel_rfl) (by kernel_rfl) (by kernel_rfl) (fun _ _ _ h => h) (Or.inl ⟨by rfl, ?_⟩) (by assumption) ?_
                rotate_left
                · (intro w hSw; (try dsimp only at hSw); go_simp; try (with_reducible rfl))
                change wpAnyH _ _ _ _ _ _ _ (Act.put _ (some 125) _) _
                simp only [Act.put, List.setIfInBounds_toArray, List.set_cons_zero, List.set_cons_succ]
                refine wpAnyH_take (i := 12) (v := ?_) rfl (by kernel_rfl) (by kernel_rfl) (by kernel_rfl) (fun _ _ _ h => h) (Or.inl ⟨by rfl, ?_⟩) (by assumption) ?_
                rotate_left
                · (intro w hSw; (try dsimp only at hSw); go_simp; try (with_reducible rfl))
                change wpAnyH _ _ _ _ _ _ _ (Act.put _ (some 126) _) _
                simp only [Act.put, List.setIfInBounds_toArray, List.set_cons_zero, List.set_cons_succ]
                refine wpAnyH_take (i := 13) (v := ?_) rfl (by kernel_rfl) (by kernel_rfl) (by kernel_rfl) (fun _ _ _ h => h) (Or.inl ⟨by rfl, ?_⟩) (by assumption) ?_
                rotate_left
                · (intro w hSw; (try dsimp only at hSw); go_simp; try (with_reducible rfl))
                change wpAnyH _ _ _ _ _ _ _ (Act.put _ (some 127) _) _
                simp only [Act.put, List.setIfInBounds_toArray, List.set_cons_zero, List.set_cons_succ]
                refine wpAnyH_ready (rs := [14]) (by kernel_rfl) (by simp) ?_
                refine AllReadyH.cons rfl (fun K hK => ?_) AllReadyH.nil
                go_simp
                (refine (heq9.out _ (hf14.trans (Fr.refl w13).drew)).mono ?_; rintro e w14 ⟨rfl, hf15⟩)
                go_wp2_with fail
                refine hK.out _ _ (⟨((Fr.refl w13).drew.trans hf15).keep s0, ((Fr.refl w13).drew.trans hf15).keep s1, ((Fr.refl w13).drew.trans hf15).keep y0, ((Fr.refl w13).drew.trans hf15).keep y1⟩) (fun hHeld => ?_)
                clear hK K
                try simp only [Act.put, List.setIfInBounds_toArray, List.set_cons_zero, List.set_cons_succ]
                refine wpAnyH_take (i := 15) (v := ?_) rfl (by kernel_rfl) (by kernel_rfl) (by kernel_rfl) (fun _ _ _ h => h) (Or.inl ⟨by rfl, ?_⟩) (by assumption) ?_
                rotate_left
                · (intro w hSw; (try dsimp only at hSw); go_simp; try (with_reducible rfl))
                change wpAnyH _ _ _ _ _ _ _ (Act.put _ (some 129) _) _
                simp only [Act.put, List.setIfInBounds_toArray, List.set_cons_zero, List.set_cons_succ]
                refine wpAnyH_take (i := 16) (v := ?_) rfl (by kernel_rfl) (by kernel_rfl) (by kernel_rfl) (fun _ _ _ h => h) (Or.inl ⟨by rfl, ?_⟩) (by assumption) ?_
                rotate_left
                · (intro w hSw; (try dsimp only at hSw); go_simp; try (with_reducible rfl))
                change wpAnyH _ _ _ _ _ _ _ (Act.put _ (some 130) _) _
                simp only [Act.put, List.setIfInBounds_toArray, List.set_cons_zero, List.set_cons_succ]
                refine wpAnyH_take (i := 17) (v := ?_) rfl (by kernel_rfl) (by kernel_rfl) (by kernel_rfl) (fun _ _ _ h => h) (Or.inl ⟨by rfl, ?_⟩) (by assumption) ?_
                rotate_left
                · (intro w hSw; (try dsimp only at hSw); go_simp; try (with_reducible rfl))
                change wpAnyH _ _ _ _ _ _ _ (Act.put _ (some 6) _) _
                simp only [Act.put, List.setIfInBounds_toArray, List.set_cons_zero, List.set_cons_succ]
                refine wpAnyH_done (by kernel_rfl) ?_ _
                have hfz := Lib.hid (show Fr w10 w14 from (hf13.trans hf14).trans ((Fr.refl w13).drew.trans hf15))
                go_wp2_with fail
                go_ret
                exact ⟨rfl, (hfw.out.trans hf39).trans hfz.out⟩
          · have q2 : (E2 != 0) = true := bne_iff_ne.2 e2
            have q2' : (E2 == 0) = false := beq_false_of_ne e2
            replace e1 := Lib.hid e1
            replace e2 := Lib.hid e2
            replace ed := Lib.hid ed
            replace hE1 := Lib.hid hE1
            replace hE2 := Lib.hid hE2
            replace hAl := Lib.hid hAl
            replace hSi := Lib.hid hSi
            replace hCk := Lib.hid hCk
            replace hBd := Lib.hid hBd
            go_wp2_with fail
            refine (hAl.out _ hf35).mono ?_
            rintro e w6 ⟨-, h6, hf6⟩
            obtain rfl := h6 (e2.out)
            replace n0 := hf6.keep n0
            replace n1 := hf6.keep n1
            replace hs2 := hf6.keep hs2
            clear h6
            go_wp2_with fail
            refine (hSi.out _ (hf35.trans hf6)).mono ?_
            rintro e w7 ⟨h7, -, -, hf7⟩
            obtain rfl := h7 (e2.out)
            replace n0 := hf7.keep n0
            replace n1 := hf7.keep n1
            replace hs2 := hf7.keep hs2
            have hf37 := (hf35.trans hf6).trans hf7
            clear h7 hf6 hf7 hf35
            go_upto_region 6 with (fail)
            obtain ⟨w8, hw8⟩ : ∃ w8, w8 = w7.alloc (.cells #[.int .i64 0, .slice none 0 0] 42) := ⟨_, rfl⟩
            have hf8 : Fr w7 w8 := by rw [hw8]; exact (Fr.refl _).alloc _
            have s0 : w8.cell? ⟨w7.heap.size, 0, none⟩ = some (.int .i64 0) := by rw [hw8]; exact (new2a _ _ _ _).1
            have s1 : w8.cell? ⟨w7.heap.size, 1, none⟩ = some (.slice none 0 0) := by rw [hw8]; exact (new2b _ _ _ _).1
            rw [← hw8]
            clear hw8
            replace n0 := hf8.keep n0
            replace n1 := hf8.keep n1
            replace hs2 := hf8.keep hs2
            go_wp2_with fail
            refine (hCk.out _ (hf37.trans hf8)).mono ?_
            rintro e w9 ⟨rfl, hf9⟩
            replace n0 := hf9.keep n0
            replace n1 := hf9.keep n1
            replace hs2 := hf9.keep hs2
            replace s0 := hf9.keep s0
            replace s1 := hf9.keep s1
            have hf39 := (hf37.trans hf8).trans hf9
            clear hf8 hf9 hf37
            go_wp2_with fail; refine (hBd.out _).mono ?_; rintro e w10 ⟨rfl, hf10⟩; replace s0 := hf10.keep s0; replace s1 := hf10.keep s1; replace hf39 := hf39.trans hf10
            go_wp2_with fail
            refine (equal_zero _).mono ?_
            rintro e w11 ⟨rfl, hf11⟩
            go_wp2_with fail
            go_ret
            exact ⟨rfl, (hfw.out.trans hf39).trans hf11⟩
        · rw [if_pos ed] at hAl hSi
          have qd : ((nR : Int) != (d : Int)) = true := bne_iff_ne.2 (by omega)
          replace e1 := Lib.hid e1
          replace ed := Lib.hid ed
          replace hE1 := Lib.hid hE1
          replace hE2 := Lib.hid hE2
          replace hAl := Lib.hid hAl
          replace hSi := Lib.hid hSi
          replace hCk := Lib.hid hCk
          replace hBd := Lib.hid hBd
          go_wp2_with fail
          refine (hAl.out _ hf35).mono ?_
          rintro e w6 ⟨-, h6, hf6⟩
          obtain rfl := h6 (by decide)
          replace n0 := hf6.keep n0
          replace n1 := hf6.keep n1
          replace hs2 := hf6.keep hs2
          clear h6
          go_wp2_with fail
          refine (hSi.out _ (hf35.trans hf6)).mono ?_
          rintro e w7 ⟨h7, -, -, hf7⟩
          obtain rfl := h7 (by decide)
          replace n0 := hf7.keep n0
          replace n1 := hf7.keep n1
          replace hs2 := hf7.keep hs2
          have hf37 := (hf35.trans hf6).trans hf7
          clear h7 hf6 hf7 hf35
          go_upto_region 6 with (fail)
          obtain ⟨w8, hw8⟩ : ∃ w8, w8 = w7.alloc (.cells #[.int .i64 0, .slice none 0 0] 42) := ⟨_, rfl⟩
          have hf8 : Fr w7 w8 := by rw [hw8]; exact (Fr.refl _).alloc _
          have s0 : w8.cell? ⟨w7.heap.size, 0, none⟩ = some (.int .i64 0) := by rw [hw8]; exact (new2a _ _ _ _).1
          have s1 : w8.cell? ⟨w7.heap.size, 1, none⟩ = some (.slice none 0 0) := by rw [hw8]; exact (new2b _ _ _ _).1
          rw [← hw8]
          clear hw8
          replace n0 := hf8.keep n0
          replace n1 := hf8.keep n1
          replace hs2 := hf8.keep hs2
          go_wp2_with fail
          refine (hCk.out _ (hf37.trans hf8)).mono ?_
          rintro e w9 ⟨rfl, hf9⟩
          replace n0 := hf9.keep n0
          replace n1 := hf9.keep n1
          replace hs2 := hf9.keep hs2
          replace s0 := hf9.keep s0
          replace s1 := hf9.keep s1
          have hf39 := (hf37.trans hf8).trans hf9
          clear hf8 hf9 hf37
          skip
          go_wp2_with fail
          refine (equal_zero _).mono ?_
          rintro e w11 ⟨rfl, hf11⟩
          go_wp2_with fail
          go_ret
          exact ⟨rfl, (hfw.out.trans hf39).trans hf11⟩
      · rw [if_pos e1] at hAl hSi
        have q1 : (E1 == 0) = false := beq_false_of_ne e1
        have q1' : (E1 != 0) = true := bne_iff_ne.2 e1
        replace e1 := Lib.hid e1
        replace hE1 := Lib.hid hE1
        replace hE2 := Lib.hid hE2
        replace hAl := Lib.hid hAl
        replace hSi := Lib.hid hSi
        replace hCk := Lib.hid hCk
        replace hBd := Lib.hid hBd
        go_wp2_with fail
        refine (hAl.out _ hf35).mono ?_
        rintro e w6 ⟨-, h6, hf6⟩
        obtain rfl := h6 (e1.out)
        replace n0 := hf6.keep n0
        replace n1 := hf6.keep n1
        replace hs2 := hf6.keep hs2
        clear h6
        go_wp2_with fail
        refine (hSi.out _ (hf35.trans hf6)).mono ?_
        rintro e w7 ⟨h7, -, -, hf7⟩
        obtain rfl := h7 (e1.out)
        replace n0 := hf7.keep n0
        replace n1 := hf7.keep n1
        replace hs2 := hf7.keep hs2
        have hf37 := (hf35.trans hf6).trans hf7
        clear h7 hf6 hf7 hf35
        go_upto_region 6 with (fail)
        obtain ⟨w8, hw8⟩ : ∃ w8, w8 = w7.alloc (.cells #[.int .i64 0, .slice none 0 0] 42) := ⟨_, rfl⟩
        have hf8 : Fr w7 w8 := by rw [hw8]; exact (Fr.refl _).alloc _
        have s0 : w8.cell? ⟨w7.heap.size, 0, none⟩ = some (.int .i64 0) := by rw [hw8]; exact (new2a _ _ _ _).1
        have s1 : w8.cell? ⟨w7.heap.size, 1, none⟩ = some (.slice none 0 0) := by rw [hw8]; exact (new2b _ _ _ _).1
        rw [← hw8]
        clear hw8
        replace n0 := hf8.keep n0
        replace n1 := hf8.keep n1
        replace hs2 := hf8.keep hs2
        go_wp2_with fail
        refine (hCk.out _ (hf37.trans hf8)).mono ?_
        rintro e w9 ⟨rfl, hf9⟩
        replace n0 := hf9.keep n0
        replace n1 := hf9.keep n1
        replace hs2 := hf9.keep hs2
        replace s0 := hf9.keep s0
        replace s1 := hf9.keep s1
        have hf39 := (hf37.trans hf8).trans hf9
        clear hf8 hf9 hf37
        skip
        go_wp2_with fail
        refine (equal_zero _).mono ?_
        rintro e w11 ⟨rfl, hf11⟩
        go_wp2_with fail
        go_ret
        exact ⟨rfl, (hfw.out.trans hf39).trans hf11⟩
    · have hs : smallB nN nA most = false := by simpa using hs
      rw [hs] at hsm
      replace hs := Lib.hid hs
      go_wp2_with fail
      refine (hkn.out _ (Fr.refl _)).mono ?_
      rintro e w4 ⟨rfl, hf4⟩
      replace n0 := hf4.keep n0
      replace n1 := hf4.keep n1
      go_wp2_with fail
      refine (hsm.out _).mono ?_
      rintro e w5 ⟨rfl, hf5⟩
      go_wp2_with fail
      refine (hkn.out _ (hf4.trans hf5)).mono ?_
      rintro e w6 ⟨rfl, hf6⟩
      go_wp2_with fail
      go_ret
      exact ⟨rfl, ((hfw.out.trans hf4).trans hf5).trans hf6⟩
end Go.Proofs.YtphjfalibnnohaaGreatDoor
