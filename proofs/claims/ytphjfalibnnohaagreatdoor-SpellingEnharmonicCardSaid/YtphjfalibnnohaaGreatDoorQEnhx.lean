/-
  Contracts and laws for the statements of the law 43 of the seat, QEnhx.
-/
import Derived.Test.YtphjfalibnnohaaGreatDoorQJ

/- schismalaw43.SpellingEnharmonic returns true. -/
namespace Go.Proofs.YtphjfalibnnohaaGreatDoor
open Go.RowKit Go.Lib
attribute [local go_sem ↓] Go.wp_at_zero Go.wp_at_succ

theorem keep_eq (s : Nat × List Int) (K : List BX) : (keepL (fun x => decide (stripX x = s)) K).map stripX = (K.map stripX).filter fun t => !decide (ordS (stI s) (stI t) = 0) := by
  rw [show (fun t : Nat × List Int => !decide (ordS (stI s) (stI t) = 0)) = fun t => !decide (t = s) from ?_]
  · unfold keepL
    rw [List.filter_map]; rfl
  · funext t
    congr 1
    refine decide_eq_decide.2 ⟨fun h => (stI_inj (ordS_eq h)).symm, fun h => by rw [h]; exact ordS_refl _⟩

set_option maxRecDepth 100000 in
set_option maxHeartbeats 4000000 in
theorem SpellingEnharmonic_any (two : Bool) (nn na r0 r1 r2 r3 r4 r5 r6 r7 r8 r9 r10 r11 r12 r13 i most : Int) (cs : List Int) (ca : Option Addr) (cc : Nat) (w : World) (hG : G w) (hnn : 0 ≤ nn ∧ nn ≤ 255) (hna : 0 ≤ na ∧ na ≤ 255) (hr : ∀ x, x ∈ [r0, r1, r2, r3, r4, r5, r6, r7, r8, r9, r10, r11, r12, r13] → fits8 x) (hcs : El w iv ca cs) :
    Calls Tryz.prog 4 #[.agg #[.bool two, .int .u8 nn, .int .u8 na, .int .i8 r0, .int .i8 r1, .int .i8 r2, .int .i8 r3, .int .i8 r4, .int .i8 r5, .int .i8 r6, .int .i8 r7, .int .i8 r8, .int .i8 r9, .int .i8 r10, .int .i8 r11, .int .i8 r12, .int .i8 r13], .agg #[.int .i64 i, .slice ca cs.length cc], .int .i64 most] w fun e w' => e = .returned (.bool true) ∧ Fr w w' := by
  obtain ⟨nc, hnc⟩ : ∃ nc, nc = cs.length := ⟨_, rfl⟩
  rw [← hnc]
  replace hnc := Lib.hid hnc
  replace hcs := Lib.hid hcs
  obtain ⟨wb, hwb⟩ : ∃ wb, wb = alls w [(.cells #[.bool two, .int .u8 nn, .int .u8 na, .int .i8 r0, .int .i8 r1, .int .i8 r2, .int .i8 r3, .int .i8 r4, .int .i8 r5, .int .i8 r6, .int .i8 r7, .int .i8 r8, .int .i8 r9, .int .i8 r10, .int .i8 r11, .int .i8 r12, .int .i8 r13] 26), (.cells #[.int .i64 i, .slice ca nc cc] 42)] := ⟨_, rfl⟩
  have hfb : Fr w wb := by rw [hwb]; exact alls_fr _ w
  have g0 : wb.heap[w.heap.size]? = some (.cells #[.bool two, .int .u8 nn, .int .u8 na, .int .i8 r0, .int .i8 r1, .int .i8 r2, .int .i8 r3, .int .i8 r4, .int .i8 r5, .int .i8 r6, .int .i8 r7, .int .i8 r8, .int .i8 r9, .int .i8 r10, .int .i8 r11, .int .i8 r12, .int .i8 r13] 26 (0, 0)) := by rw [hwb]; exact alls_get _ w 0 _ rfl
  have g9 : wb.heap[w.heap.size + 1]? = some (.cells #[.int .i64 i, .slice ca nc cc] 42 (0, 0)) := by rw [hwb]; exact alls_get _ w 1 _ rfl
  have p0 : wb.cell? ⟨w.heap.size, 0, none⟩ = some (.bool two) := cells_of g0 0
  have p1 : wb.cell? ⟨w.heap.size, 1, none⟩ = some (.int .u8 nn) := cells_of g0 1
  have p2 : wb.cell? ⟨w.heap.size, 2, none⟩ = some (.int .u8 na) := cells_of g0 2
  have p3 : wb.cell? ⟨w.heap.size, 3, none⟩ = some (.int .i8 r0) := cells_of g0 3
  have p4 : wb.cell? ⟨w.heap.size, 4, none⟩ = some (.int .i8 r1) := cells_of g0 4
  have p5 : wb.cell? ⟨w.heap.size, 5, none⟩ = some (.int .i8 r2) := cells_of g0 5
  have p6 : wb.cell? ⟨w.heap.size, 6, none⟩ = some (.int .i8 r3) := cells_of g0 6
  have p7 : wb.cell? ⟨w.heap.size, 7, none⟩ = some (.int .i8 r4) := cells_of g0 7
  have p8 : wb.cell? ⟨w.heap.size, 8, none⟩ = some (.int .i8 r5) := cells_of g0 8
  have p9 : wb.cell? ⟨w.heap.size, 9, none⟩ = some (.int .i8 r6) := cells_of g0 9
  have p10 : wb.cell? ⟨w.heap.size, 10, none⟩ = some (.int .i8 r7) := cells_of g0 10
  have p11 : wb.cell? ⟨w.heap.size, 11, none⟩ = some (.int .i8 r8) := cells_of g0 11
  have p12 : wb.cell? ⟨w.heap.size, 12, none⟩ = some (.int .i8 r9) := cells_of g0 12
  have p13 : wb.cell? ⟨w.heap.size, 13, none⟩ = some (.int .i8 r10) := cells_of g0 13
  have p14 : wb.cell? ⟨w.heap.size, 14, none⟩ = some (.int .i8 r11) := cells_of g0 14
  have p15 : wb.cell? ⟨w.heap.size, 15, none⟩ = some (.int .i8 r12) := cells_of g0 15
  have p16 : wb.cell? ⟨w.heap.size, 16, none⟩ = some (.int .i8 r13) := cells_of g0 16
  have x0 : wb.cell? ⟨w.heap.size + 1, 0, none⟩ = some (.int .i64 i) := cells_of g9 0
  have x1 : wb.cell? ⟨w.heap.size + 1, 1, none⟩ = some (.slice ca nc cc) := cells_of g9 1
  have hmk := Lib.hid (Plan_any two nn na r0 r1 r2 r3 r4 r5 r6 r7 r8 r9 r10 r11 r12 r13 wb hnn hna hr)
  have hkn := Lib.hid (fun W (hW : Fr w W) => known_any W (hG.fr hW))
  clear g0 g9 hr
  replace hfb := Lib.hid hfb
  go_enter Tryz.func4, Tryz.ntmps4
  go_upto_region 1 with (fail)
  change Code.wp _ _ _ _ (alls w [(.cells #[.bool two, .int .u8 nn, .int .u8 na, .int .i8 r0, .int .i8 r1, .int .i8 r2, .int .i8 r3, .int .i8 r4, .int .i8 r5, .int .i8 r6, .int .i8 r7, .int .i8 r8, .int .i8 r9, .int .i8 r10, .int .i8 r11, .int .i8 r12, .int .i8 r13] 26), (.cells #[.int .i64 i, .slice ca nc cc] 42)])
  rw [← hwb]
  clear hwb
  go_wp2_with fail
  refine hmk.out.mono ?_
  rintro e w2 ⟨aN, aA, cN, cA, N, A, d, rfl, hn, hok, hf2⟩
  replace x0 := hf2.keep x0
  replace x1 := hf2.keep x1
  clear p0 p1 p2 p3 p4 p5 p6 p7 p8 p9 p10 p11 p12 p13 p14 p15 p16 hmk hnn hna
  obtain ⟨nN, hnN⟩ : ∃ nN, nN = N.length := ⟨_, rfl⟩
  obtain ⟨nA, hnA⟩ : ∃ nA, nA = A.length := ⟨_, rfl⟩
  have hN1 := hok.n1
  have hN4 := hok.n4
  have hA3 := hok.a3
  rw [← hnN] at hN1 hN4
  rw [← hnA] at hA3
  rw [← hnN, ← hnA]
  replace hnN := Lib.hid hnN
  replace hnA := Lib.hid hnA
  go_upto_region 2 with (fail)
  obtain ⟨w3, hw3⟩ : ∃ w3, w3 = w2.alloc (.cells #[.slice aN nN cN, .slice aA nA cA] 30) := ⟨_, rfl⟩
  have hf3 : Fr w2 w3 := by rw [hw3]; exact (Fr.refl _).alloc _
  have n0 : w3.cell? ⟨w2.heap.size, 0, none⟩ = some (.slice aN nN cN) := by rw [hw3]; exact (new2a _ _ _ _).1
  have n1 : w3.cell? ⟨w2.heap.size, 1, none⟩ = some (.slice aA nA cA) := by rw [hw3]; exact (new2b _ _ _ _).1
  rw [← hw3]
  clear hw3
  replace x0 := hf3.keep x0
  replace x1 := hf3.keep x1
  replace hn := Lib.hid (hn.fr hf3)
  have hfw := Lib.hid ((hfb.out.trans hf2).trans hf3)
  clear hf2 hf3 hfb
  replace hkn := Lib.hid (fun W (hW : Fr w3 W) => hkn.out W (hfw.out.trans hW))
  have hsm := Lib.hid (fun W => small_law aN aA cN cA nN nA most W hN4 hA3)
  by_cases h5 : 5 < nc
  · have d5 : decide ((5 : Int) < (nc : Int)) = true := decide_eq_true (by omega)
    go_wp2_with fail
    refine (hkn.out _ (Fr.refl _)).mono ?_
    rintro e w4 ⟨rfl, hf4⟩
    replace x1 := hf4.keep x1
    go_wp2_with fail
    refine (hkn.out _ hf4).mono ?_
    rintro e w5 ⟨rfl, hf5⟩
    go_wp2_with fail
    go_ret
    exact ⟨rfl, (hfw.out.trans hf4).trans hf5⟩
  · have d5 : decide ((5 : Int) < (nc : Int)) = false := decide_eq_false (by omega)
    by_cases hs : smallB nN nA most = true
    · rw [hs] at hsm
      go_wp2_with fail
      refine (hkn.out _ (Fr.refl _)).mono ?_
      rintro e w4 ⟨rfl, hf4⟩
      replace x1 := hf4.keep x1
      replace x0 := hf4.keep x0
      replace n0 := hf4.keep n0
      replace n1 := hf4.keep n1
      go_wp2_with fail
      refine (hsm.out _).mono ?_
      rintro e w5 ⟨rfl, hf5⟩
      replace x1 := hf5.keep x1
      replace x0 := hf5.keep x0
      replace n0 := hf5.keep n0
      replace n1 := hf5.keep n1
      have hf35 := hf4.trans hf5
      clear hf4 hf5
      have hEn := fun W (hW : Fr w3 W) => Enharmonic_any d aN aA cN cA N A ⟨i, cs, ca, cc⟩ most W (hn.out.fr hW) hok.ok hok.d1 (hcs.out.fr (hfw.out.trans hW)) (by rw [← hnc.out]; omega) (fun hb => by rw [← hnN.out, ← hnA.out] at hb; have := small_le hs hb; omega)
      have hEr := fun W (hW : Fr w3 W) => errorOf_any aN aA cN cA N A i cs ca cc W (hcs.out.fr (hfw.out.trans hW)) (by rw [← hnc.out]; omega) (by rw [← hnN.out]; omega) (by rw [← hnA.out]; omega)
      have hBd := fun W => boundR_any aN aA cN cA nN nA most W (by omega) (by omega)
      simp only at hEn
      unfold enhE at hEn
      rw [← hnN.out, ← hnA.out, ← hnc.out] at hEn hEr
      obtain ⟨E1, hE1⟩ : ∃ E1, E1 = spE N A i cs := ⟨_, rfl⟩
      obtain ⟨E2, hE2⟩ : ∃ E2, E2 = boundE nN nA most := ⟨_, rfl⟩
      rw [← hE1, ← hE2] at hEn
      rw [← hE1] at hEr
      rw [← hE2] at hBd
      by_cases e1 : E1 = 0
      · rw [if_neg (by rw [e1]; simp)] at hEn
        by_cases e2 : E2 = 0
        · have q1 : (E1 == 0) = true := by rw [e1]; rfl
          have q2 : (E2 != 0) = false := by rw [e2]; rfl
          obtain ⟨v0, v1, v2, v3⟩ := spE_inv (hE1.symm.trans e1)
          obtain ⟨k, rfl⟩ : ∃ k : Nat, i = k := ⟨i.toNat, by omega⟩
          have hm0 := bound_nn (hE2.symm.trans e2)
          have hm1 := small_le hs (hE2.symm.trans e2)
          obtain ⟨m, rfl⟩ : ∃ m : Nat, most = m := ⟨most.toNat, by omega⟩
          rw [Int.toNat_natCast, Int.toNat_natCast] at hEn
          have hbx := boundE_size (by omega) (hE2.symm.trans e2)
          have hP1 : (2 * m + 1) ^ nA ≤ 20000 := by
            have : 1 * (2 * m + 1) ^ nA ≤ nN * (2 * m + 1) ^ nA := Nat.mul_le_mul_right _ hN1
            omega
          have hrd := fun W (hW : Fr w3 W) => read_law d aN aA cN cA N A k cs ca cc W (hG.fr (hfw.out.trans hW)) (hn.out.fr hW) hok.ok (by omega) (hcs.out.fr (hfw.out.trans hW)) v2 v3
          have hal := fun W (hW : Fr w3 W) ra rc (hR : El W sv ra (sumS N A (k, cs))) => all_law d aN aA cN cA N A (sumS N A (k, cs)) ra rc m W (hG.fr (hfw.out.trans hW)) (hn.out.fr hW) hok.ok hR (by rw [sumS_length hok.ok (by omega)]; have := hok.d2; omega) (by omega) (by rw [← hnA.out]; omega) (by rw [← hnN.out, ← hnA.out]; omega)
          have hLl : (sortS ((boxL m A.length N.length).filter fun s => decide (sumS N A s = sumS N A (k, cs)))).length ≤ 20000 := by
            rw [(sortS_perm _).length_eq]
            refine Nat.le_trans (List.length_filter_le _ _) ?_
            rw [boxL_size, ← hnN.out, ← hnA.out]; exact hbx
          have hLm : ∀ s, s ∈ sortS ((boxL m A.length N.length).filter fun s => decide (sumS N A s = sumS N A (k, cs))) → s.2.length = nA := fun s hs => by
            have h1 := (sortS_perm _).mem_iff.1 hs
            rw [hnA.out]
            exact (boxL_mem (List.mem_filter.1 h1).1).2.1
          unfold enhL allL at hEn
          obtain ⟨L, hL⟩ : ∃ L, L = sortS ((boxL m A.length N.length).filter fun s => decide (sumS N A s = sumS N A (k, cs))) := ⟨_, rfl⟩
          rw [← hL] at hEn hal hLl hLm
          have hncA : nc = nA := by rw [hnc.out, hnA.out]; exact v2
          rw [← hnN.out, ← hnA.out, ← hnc.out] at hrd
          rw [← hnN.out, ← hnA.out] at hal
          replace e1 := Lib.hid e1
          replace e2 := Lib.hid e2
          replace hE1 := Lib.hid hE1
          replace hE2 := Lib.hid hE2
          replace hEn := Lib.hid hEn
          replace hEr := Lib.hid hEr
          replace hBd := Lib.hid hBd
          replace hrd := Lib.hid hrd
          replace hal := Lib.hid hal
          replace hLl := Lib.hid hLl
          replace hLm := Lib.hid hLm
          replace hL := Lib.hid hL
          replace hncA := Lib.hid hncA
          clear v0 v1 v2 v3 hbx hP1
          go_wp2_with fail
          refine (hEn.out _ hf35).mono ?_
          rintro e w6 ⟨h6, -, hf6⟩
          obtain ⟨al, cl, xl, rfl, hxl1, hxl2, hxl3⟩ := h6 e2.out
          replace hxl1 := Lib.hid (show BXs w6 al xl from ⟨hxl1, hxl2⟩)
          replace hxl3 := Lib.hid hxl3
          clear h6 hxl2
          replace x1 := hf6.keep x1
          replace x0 := hf6.keep x0
          replace n0 := hf6.keep n0
          replace n1 := hf6.keep n1
          go_wp2_with fail
          refine (hEr.out _ (hf35.trans hf6)).mono ?_
          rintro e w7 ⟨rfl, hf7⟩
          replace x1 := hf7.keep x1
          replace x0 := hf7.keep x0
          replace n0 := hf7.keep n0
          replace n1 := hf7.keep n1
          go_wp2_with fail
          refine (hBd.out _).mono ?_
          rintro e w8 ⟨rfl, hf8⟩
          replace x1 := hf8.keep x1
          replace x0 := hf8.keep x0
          replace n0 := hf8.keep n0
          replace n1 := hf8.keep n1
          have hf38 := ((hf35.trans hf6).trans hf7).trans hf8
          replace hxl1 := Lib.hid (hxl1.out.fr (hf7.trans hf8))
          clear hf35 hf6 hf7 hf8
          have hdel := fun (W9 W10 : World) a10 c10 (xs : List BX) (hW9 : Fr w8 W9) (hf : Fr W9 W10) (hown : OwnSp W10 W9.heap.size a10 c10 xs) (hx : xs.map stripX = L) => DelGen 23 #[.pointer (some ⟨w.heap.size + 1, 0, none⟩)] (fun x => decide (stripX x = (k, cs))) a10 c10 xs W9.heap.size W9 W10 enters_enh1 hown hf (Nat.le_refl _)
            (by have h1 : xs.length = L.length := by rw [← hx, List.length_map]
                have := hLl.out; omega)
            (fun x hx9 W' hW' hel => Enh23_any x k cs ca cc (w.heap.size + 1) W' ((hW9.trans hW').keep x0) (by rw [← hnc.out]; exact (hW9.trans hW').keep x1) hel (hcs.out.fr (((hfw.out.trans hf38).trans hW9).trans hW')) (by
                have h1 : stripX x ∈ L := by rw [← hx]; exact List.mem_map_of_mem hx9
                have h2 : x.cs.length = nA := hLm.out _ h1
                omega) (by rw [← hnc.out]; omega))
          replace hdel := Lib.hid hdel
          have hrd8 := Lib.hid (fun W (hW : Fr w8 W) => hrd.out W (hf38.trans hW))
          have hal8 := Lib.hid (fun W (hW : Fr w8 W) => hal.out W (hf38.trans hW))
          go_upto_region 10 with (fail)
          go_region_held3 (fun w' => w'.cell? ⟨w2.heap.size, 0, none⟩ = some (.slice aN nN cN) ∧ w'.cell? ⟨w2.heap.size, 1, none⟩ = some (.slice aA nA cA) ∧ w'.cell? ⟨w.heap.size + 1, 0, none⟩ = some (.int .i64 k) ∧ w'.cell? ⟨w.heap.size + 1, 1, none⟩ = some (.slice ca nc cc))
            (first | go_keep | (go_split_ands; refine ⟨?_, ?_, ?_, ?_⟩ <;> (refine Fr.keep (by assumption) ?_; assumption)))
            (first
              | (go_at_call 22; (with_reducible refine (hrd8.out _ ?_).mono ?_); (repeat (with_reducible first | assumption | exact Fr.refl _ | refine Fr.drew ?_ | refine Fr.drewN ?_ _ | refine Fr.alloc ?_ _ | (refine Fr.setCell ?_ (by simp only [World.size_alloc, World.size_drew, World.size_setCell]; omega) _) | refine Fr.trans ?_ (by assumption))); rintro e w9 ⟨a9, c9, rfl, he9, hc9, hf9⟩; replace he9 := Lib.hid he9)
              | (go_at_call 21; have hz9 : Fr w8 w9 := (by repeat (with_reducible first | assumption | exact Fr.refl _ | refine Fr.drew ?_ | refine Fr.drewN ?_ _ | refine Fr.alloc ?_ _ | (refine Fr.setCell ?_ (by simp only [World.size_alloc, World.size_drew, World.size_setCell]; omega) _) | refine Fr.trans ?_ (by assumption))); (with_reducible refine (hal8.out _ hz9 _ _ he9.out).mono ?_); rintro e w10 ⟨a10, c10, xs, rfl, hown10, hx10, hf10⟩; replace hown10 := Lib.hid hown10; replace hx10 := Lib.hid hx10)
              | (go_at_call 10; (with_reducible refine (hdel.out w9 w10 _ _ _ hz9 hf10 hown10.out hx10.out).mono ?_); rintro e w11 ⟨c11, ys, hys, rfl, hb11, hf11⟩; replace hys := Lib.hid hys; replace hb11 := Lib.hid hb11; have hf12 : Fr w8 w11 := hz9.trans hf11))
          all_goals
            have hsame : xl.map stripX = ys.map stripX := by rw [hxl3.out, hys.out, keep_eq, hx10.out]
            have hxc : ∀ x, x ∈ xl → x.cs.length ≤ 1000000 := fun x hx => by
              have h1 : stripX x ∈ xl.map stripX := List.mem_map_of_mem hx
              rw [hxl3.out] at h1
              have h2 : x.cs.length = nA := hLm.out _ (List.mem_filter.1 h1).1
              omega
            have hyc : ∀ x, x ∈ ys → x.cs.length ≤ 1000000 := fun x hx => by
              have h1 : stripX x ∈ ys.map stripX := List.mem_map_of_mem hx
              rw [← hsame, hxl3.out] at h1
              have h2 : x.cs.length = nA := hLm.out _ (List.mem_filter.1 h1).1
              omega
            have hxn : xl.length ≤ 1000000 := by
              have h1 : xl.length = (xl.map stripX).length := (List.length_map _).symm
              rw [hxl3.out] at h1
              have := List.length_filter_le (fun t => !decide (ordS (stI (k, cs)) (stI t) = 0)) L
              have := hLl.out
              omega
            have hyn : ys.length ≤ 1000000 := by
              have h1 : ys.length = (ys.map stripX).length := (List.length_map _).symm
              rw [← hsame, List.length_map] at h1
              omega
            have hsm9 := same_any xl ys al a10 cl c11 w11 (hxl1.out.fr hf12) hb11.out (by omega) (by omega) hxc hyc
            rw [decide_eq_true hsame] at hsm9
            replace hsm9 := Lib.hid hsm9
            replace hsame := Lib.hid hsame
            clear hxc hyc
            go_wp2_with fail
            refine hsm9.out.mono ?_
            rintro e w12 ⟨rfl, hf13⟩
            go_wp2_with fail
            go_ret
            exact ⟨rfl, ((hfw.out.trans hf38).trans hf12).trans hf13⟩
        · have q1 : (E1 == 0) = true := by rw [e1]; rfl
          have q2 : (E2 != 0) = true := bne_iff_ne.2 e2
          have q2' : (E2 == 0) = false := beq_false_of_ne e2
          replace e1 := Lib.hid e1
          replace e2 := Lib.hid e2
          replace hE1 := Lib.hid hE1
          replace hE2 := Lib.hid hE2
          replace hEn := Lib.hid hEn
          replace hEr := Lib.hid hEr
          replace hBd := Lib.hid hBd
          go_wp2_with fail
          refine (hEn.out _ hf35).mono ?_
          rintro e w6 ⟨-, h6, hf6⟩
          obtain rfl := h6 e2.out
          replace x1 := hf6.keep x1
          replace x0 := hf6.keep x0
          replace n0 := hf6.keep n0
          replace n1 := hf6.keep n1
          go_wp2_with fail
          refine (hEr.out _ (hf35.trans hf6)).mono ?_
          rintro e w7 ⟨rfl, hf7⟩
          replace n0 := hf7.keep n0
          replace n1 := hf7.keep n1
          go_wp2_with fail
          refine (hBd.out _).mono ?_
          rintro e w8 ⟨rfl, hf8⟩
          go_wp2_with fail
          go_ret
          exact ⟨rfl, (((hfw.out.trans hf35).trans hf6).trans hf7).trans hf8⟩
      · rw [if_pos e1] at hEn
        have q1 : (E1 != 0) = true := bne_iff_ne.2 e1
        have q1' : (E1 == 0) = false := beq_false_of_ne e1
        replace e1 := Lib.hid e1
        replace hE1 := Lib.hid hE1
        replace hE2 := Lib.hid hE2
        replace hEn := Lib.hid hEn
        replace hEr := Lib.hid hEr
        replace hBd := Lib.hid hBd
        go_wp2_with fail
        refine (hEn.out _ hf35).mono ?_
        rintro e w6 ⟨-, h6, hf6⟩
        obtain rfl := h6 e1.out
        replace x1 := hf6.keep x1
        replace x0 := hf6.keep x0
        replace n0 := hf6.keep n0
        replace n1 := hf6.keep n1
        go_wp2_with fail
        refine (hEr.out _ (hf35.trans hf6)).mono ?_
        rintro e w7 ⟨rfl, hf7⟩
        go_wp2_with fail
        go_ret
        exact ⟨rfl, ((hfw.out.trans hf35).trans hf6).trans hf7⟩
    · have hs : smallB nN nA most = false := by simpa using hs
      rw [hs] at hsm
      replace hs := Lib.hid hs
      go_wp2_with fail
      refine (hkn.out _ (Fr.refl _)).mono ?_
      rintro e w4 ⟨rfl, hf4⟩
      replace x1 := hf4.keep x1
      replace n0 := hf4.keep n0
      replace n1 := hf4.keep n1
      go_wp2_with fail
      refine (hsm.out _).mono ?_
      rintro e w5 ⟨rfl, hf5⟩
      go_wp2_with fail
      refine (hkn.out _ (hf4.trans hf5)).mono ?_
      rintro e w6 ⟨rfl, hf6⟩
      go_wp2_with fail
      go_ret
      exact ⟨rfl, ((hfw.out.trans hf4).trans hf5).trans hf6⟩
end Go.Proofs.YtphjfalibnnohaaGreatDoor
