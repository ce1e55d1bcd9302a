/-
  Contracts and laws for the statements of the law 43 of the seat, QReadx.
-/
import Derived.Test.YtphjfalibnnohaaGreatDoorQJ

/- schismalaw43.SpellingReads returns true. -/
namespace Go.Proofs.YtphjfalibnnohaaGreatDoor
open Go.RowKit Go.Lib
attribute [local go_sem ↓] Go.wp_at_zero Go.wp_at_succ

theorem great_fit (L : List Int) : L.any greatB = L.any (fun n => !fitB n) := by
  congr 1
  funext x
  unfold greatB fitB
  by_cases h : -1000000000 ≤ x ∧ x ≤ 1000000000
  · rw [decide_eq_true h, decide_eq_false (by omega)]; rfl
  · rw [decide_eq_false h, decide_eq_true (by omega)]; rfl
theorem spE_row {N A : List Sy} {i : Int} {cs : List Int} (h : spE N A i cs = 0) : rowE cs = 0 := by
  unfold spE at h
  split at h
  · omega
  · split at h
    · omega
    · exact h

set_option maxRecDepth 100000 in
set_option maxHeartbeats 4000000 in
theorem SpellingReads_any (two : Bool) (nn na r0 r1 r2 r3 r4 r5 r6 r7 r8 r9 r10 r11 r12 r13 i j : Int) (cs ds : List Int) (ca da : Option Addr) (cc dc : Nat) (w : World) (hG : G w) (hnn : 0 ≤ nn ∧ nn ≤ 255) (hna : 0 ≤ na ∧ na ≤ 255) (hr : ∀ x, x ∈ [r0, r1, r2, r3, r4, r5, r6, r7, r8, r9, r10, r11, r12, r13] → fits8 x) (hcs : El w iv ca cs) (hds : El w iv da ds) :
    Calls Tryz.prog 6 #[.agg #[.bool two, .int .u8 nn, .int .u8 na, .int .i8 r0, .int .i8 r1, .int .i8 r2, .int .i8 r3, .int .i8 r4, .int .i8 r5, .int .i8 r6, .int .i8 r7, .int .i8 r8, .int .i8 r9, .int .i8 r10, .int .i8 r11, .int .i8 r12, .int .i8 r13], .agg #[.int .i64 i, .slice ca cs.length cc], .agg #[.int .i64 j, .slice da ds.length dc]] w fun e w' => e = .returned (.bool true) ∧ Fr w w' := by
  obtain ⟨nc, hnc⟩ : ∃ nc, nc = cs.length := ⟨_, rfl⟩
  obtain ⟨nd, hnd⟩ : ∃ nd, nd = ds.length := ⟨_, rfl⟩
  rw [← hnc, ← hnd]
  replace hnc := Lib.hid hnc
  replace hnd := Lib.hid hnd
  replace hcs := Lib.hid hcs
  replace hds := Lib.hid hds
  obtain ⟨wb, hwb⟩ : ∃ wb, wb = alls w [(.cells #[.bool two, .int .u8 nn, .int .u8 na, .int .i8 r0, .int .i8 r1, .int .i8 r2, .int .i8 r3, .int .i8 r4, .int .i8 r5, .int .i8 r6, .int .i8 r7, .int .i8 r8, .int .i8 r9, .int .i8 r10, .int .i8 r11, .int .i8 r12, .int .i8 r13] 26), (.cells #[.int .i64 i, .slice ca nc cc] 42), (.cells #[.int .i64 j, .slice da nd dc] 42)] := ⟨_, rfl⟩
  have hfb : Fr w wb := by rw [hwb]; exact alls_fr _ w
  have g0 : wb.heap[w.heap.size]? = some (.cells #[.bool two, .int .u8 nn, .int .u8 na, .int .i8 r0, .int .i8 r1, .int .i8 r2, .int .i8 r3, .int .i8 r4, .int .i8 r5, .int .i8 r6, .int .i8 r7, .int .i8 r8, .int .i8 r9, .int .i8 r10, .int .i8 r11, .int .i8 r12, .int .i8 r13] 26 (0, 0)) := by rw [hwb]; exact alls_get _ w 0 _ rfl
  have g9 : wb.heap[w.heap.size + 1]? = some (.cells #[.int .i64 i, .slice ca nc cc] 42 (0, 0)) := by rw [hwb]; exact alls_get _ w 1 _ rfl
  have g8 : wb.heap[w.heap.size + 1 + 1]? = some (.cells #[.int .i64 j, .slice da nd dc] 42 (0, 0)) := by rw [hwb]; exact alls_get _ w 2 _ rfl
  have x0 : wb.cell? ⟨w.heap.size + 1, 0, none⟩ = some (.int .i64 i) := cells_of g9 0
  have x1 : wb.cell? ⟨w.heap.size + 1, 1, none⟩ = some (.slice ca nc cc) := cells_of g9 1
  have y0 : wb.cell? ⟨w.heap.size + 1 + 1, 0, none⟩ = some (.int .i64 j) := cells_of g8 0
  have y1 : wb.cell? ⟨w.heap.size + 1 + 1, 1, none⟩ = some (.slice da nd dc) := cells_of g8 1
  have hkn := Lib.hid (fun W (hW : Fr w W) => known_any W (hG.fr hW))
  clear g9 g8
  replace hfb := Lib.hid hfb
  replace g0 := Lib.hid g0
  go_enter Tryz.func6, Tryz.ntmps6
  go_upto_region 1 with (fail)
  change Code.wp _ _ _ _ (alls w [(.cells #[.bool two, .int .u8 nn, .int .u8 na, .int .i8 r0, .int .i8 r1, .int .i8 r2, .int .i8 r3, .int .i8 r4, .int .i8 r5, .int .i8 r6, .int .i8 r7, .int .i8 r8, .int .i8 r9, .int .i8 r10, .int .i8 r11, .int .i8 r12, .int .i8 r13] 26), (.cells #[.int .i64 i, .slice ca nc cc] 42), (.cells #[.int .i64 j, .slice da nd dc] 42)])
  rw [← hwb]
  clear hwb
  by_cases h5 : 5 < nc
  · have d5 : decide ((5 : Int) < (nc : Int)) = true := decide_eq_true (by omega)
    go_wp2_with fail
    refine (hkn.out _ hfb.out).mono ?_
    rintro e w2 ⟨rfl, hf2⟩
    replace x1 := hf2.keep x1
    go_wp2_with fail
    refine (hkn.out _ (hfb.out.trans hf2)).mono ?_
    rintro e w3 ⟨rfl, hf3⟩
    go_wp2_with fail
    go_ret
    exact ⟨rfl, (hfb.out.trans hf2).trans hf3⟩
  · have d5 : decide ((5 : Int) < (nc : Int)) = false := decide_eq_false (by omega)
    by_cases h6 : 5 < nd
    · have d6 : decide ((5 : Int) < (nd : Int)) = true := decide_eq_true (by omega)
      go_wp2_with fail
      refine (hkn.out _ hfb.out).mono ?_
      rintro e w2 ⟨rfl, hf2⟩
      replace x1 := hf2.keep x1
      replace y1 := hf2.keep y1
      go_wp2_with fail
      refine (hkn.out _ (hfb.out.trans hf2)).mono ?_
      rintro e w3 ⟨rfl, hf3⟩
      go_wp2_with fail
      go_ret
      exact ⟨rfl, (hfb.out.trans hf2).trans hf3⟩
    · have d6 : decide ((5 : Int) < (nd : Int)) = false := decide_eq_false (by omega)
      go_wp2_with fail
      refine (hkn.out _ hfb.out).mono ?_
      rintro e w2 ⟨rfl, hf2⟩
      replace x1 := hf2.keep x1
      replace y1 := hf2.keep y1
      replace x0 := hf2.keep x0
      replace y0 := hf2.keep y0
      have g2 := (Below.block hf2 _ (lt_of_heap g0.out)).trans g0.out
      have p0 : w2.cell? ⟨w.heap.size, 0, none⟩ = some (.bool two) := cells_of g2 0
      have p1 : w2.cell? ⟨w.heap.size, 1, none⟩ = some (.int .u8 nn) := cells_of g2 1
      have p2 : w2.cell? ⟨w.heap.size, 2, none⟩ = some (.int .u8 na) := cells_of g2 2
      have p3 : w2.cell? ⟨w.heap.size, 3, none⟩ = some (.int .i8 r0) := cells_of g2 3
      have p4 : w2.cell? ⟨w.heap.size, 4, none⟩ = some (.int .i8 r1) := cells_of g2 4
      have p5 : w2.cell? ⟨w.heap.size, 5, none⟩ = some (.int .i8 r2) := cells_of g2 5
      have p6 : w2.cell? ⟨w.heap.size, 6, none⟩ = some (.int .i8 r3) := cells_of g2 6
      have p7 : w2.cell? ⟨w.heap.size, 7, none⟩ = some (.int .i8 r4) := cells_of g2 7
      have p8 : w2.cell? ⟨w.heap.size, 8, none⟩ = some (.int .i8 r5) := cells_of g2 8
      have p9 : w2.cell? ⟨w.heap.size, 9, none⟩ = some (.int .i8 r6) := cells_of g2 9
      have p10 : w2.cell? ⟨w.heap.size, 10, none⟩ = some (.int .i8 r7) := cells_of g2 10
      have p11 : w2.cell? ⟨w.heap.size, 11, none⟩ = some (.int .i8 r8) := cells_of g2 11
      have p12 : w2.cell? ⟨w.heap.size, 12, none⟩ = some (.int .i8 r9) := cells_of g2 12
      have p13 : w2.cell? ⟨w.heap.size, 13, none⟩ = some (.int .i8 r10) := cells_of g2 13
      have p14 : w2.cell? ⟨w.heap.size, 14, none⟩ = some (.int .i8 r11) := cells_of g2 14
      have p15 : w2.cell? ⟨w.heap.size, 15, none⟩ = some (.int .i8 r12) := cells_of g2 15
      have p16 : w2.cell? ⟨w.heap.size, 16, none⟩ = some (.int .i8 r13) := cells_of g2 16
      have hmk := Lib.hid (Plan_any two nn na r0 r1 r2 r3 r4 r5 r6 r7 r8 r9 r10 r11 r12 r13 w2 hnn hna hr)
      have hfb2 := hfb.out.trans hf2
      clear g2 hr hf2
      go_wp2_with fail
      refine hmk.out.mono ?_
      rintro e w3 ⟨aN, aA, cN, cA, N, A, d, rfl, hn, hok, hf3⟩
      replace x0 := hf3.keep x0
      replace x1 := hf3.keep x1
      replace y0 := hf3.keep y0
      replace y1 := hf3.keep y1
      clear p0 p1 p2 p3 p4 p5 p6 p7 p8 p9 p10 p11 p12 p13 p14 p15 p16 hmk hnn hna
      obtain ⟨nN, hnN⟩ : ∃ nN, nN = N.length := ⟨_, rfl⟩
      obtain ⟨nA, hnA⟩ : ∃ nA, nA = A.length := ⟨_, rfl⟩
      have hN1 := hok.n1
      have hN4 := hok.n4
      have hA3 := hok.a3
      have hd2 := hok.d2
      rw [← hnN] at hN1 hN4
      rw [← hnA] at hA3
      rw [← hnN, ← hnA]
      replace hnN := Lib.hid hnN
      replace hnA := Lib.hid hnA
      go_upto_region 4 with (fail)
      obtain ⟨w4, hw4⟩ : ∃ w4, w4 = w3.alloc (.cells #[.slice aN nN cN, .slice aA nA cA] 30) := ⟨_, rfl⟩
      have hf4 : Fr w3 w4 := by rw [hw4]; exact (Fr.refl _).alloc _
      have n0 : w4.cell? ⟨w3.heap.size, 0, none⟩ = some (.slice aN nN cN) := by rw [hw4]; exact (new2a _ _ _ _).1
      have n1 : w4.cell? ⟨w3.heap.size, 1, none⟩ = some (.slice aA nA cA) := by rw [hw4]; exact (new2b _ _ _ _).1
      rw [← hw4]
      clear hw4
      replace x0 := hf4.keep x0
      replace x1 := hf4.keep x1
      replace y0 := hf4.keep y0
      replace y1 := hf4.keep y1
      replace hn := Lib.hid (hn.fr hf4)
      have hfw := Lib.hid ((hfb2.trans hf3).trans hf4)
      clear hf3 hf4 hfb hfb2 g0 hkn
      have hRd := fun W (hW : Fr w4 W) => Read_any d aN aA cN cA N A ⟨i, cs, ca, cc⟩ W (hn.out.fr hW) hok.ok hok.d1 (hcs.out.fr (hfw.out.trans hW)) (by show cs.length ≤ _; rw [← hnc.out]; omega)
      have hCx := fun W (hW : Fr w4 W) => Complexity_any i cs ca cc W (hG.fr (hfw.out.trans hW)) (hcs.out.fr (hfw.out.trans hW)) (by rw [← hnc.out]; omega)
      have hSm := fun W (hW : Fr w4 W) => Same_any d aN aA cN cA N A i cs ca cc j ds da dc W (hn.out.fr hW) hok.ok hok.d1 (hcs.out.fr (hfw.out.trans hW)) (hds.out.fr (hfw.out.trans hW)) (by rw [← hnc.out]; omega) (by rw [← hnd.out]; omega)
      have hCk := fun W (hW : Fr w4 W) => Check_row cs ca cc W (hcs.out.fr (hfw.out.trans hW)) (by rw [← hnc.out]; omega)
      have hEr := fun W (hW : Fr w4 W) => errorOf_any aN aA cN cA N A i cs ca cc W (hcs.out.fr (hfw.out.trans hW)) (by rw [← hnc.out]; omega) (by rw [← hnN.out]; omega) (by rw [← hnA.out]; omega)
      have hEt := fun W (hW : Fr w4 W) => errorOf_any aN aA cN cA N A j ds da dc W (hds.out.fr (hfw.out.trans hW)) (by rw [← hnd.out]; omega) (by rw [← hnN.out]; omega) (by rw [← hnA.out]; omega)
      simp only at hRd
      rw [← hnN.out, ← hnA.out, ← hnc.out] at hRd hEr
      rw [← hnN.out, ← hnA.out, ← hnd.out] at hEt
      rw [← hnN.out, ← hnA.out, ← hnc.out, ← hnd.out] at hSm
      rw [← hnc.out] at hCx hCk
      obtain ⟨E0, hE0⟩ : ∃ E0, E0 = rowE cs := ⟨_, rfl⟩
      obtain ⟨E1, hE1⟩ : ∃ E1, E1 = spE N A i cs := ⟨_, rfl⟩
      obtain ⟨E2, hE2⟩ : ∃ E2, E2 = spE N A j ds := ⟨_, rfl⟩
      unfold readE at hRd
      unfold CxRet at hCx
      unfold SameRet sameE at hSm
      rw [← hE1] at hRd hEr
      rw [← hE1, ← hE2] at hSm
      rw [← hE2] at hEt
      rw [← hE0] at hCx hCk
      by_cases e0 : E0 = 0
      · obtain ⟨h64, hft⟩ := rowE_inv (hE0.symm.trans e0)
        have q0 : (E0 != 0) = false := by rw [e0]; rfl
        have hcb := cx_bound hft
        have hcm := fun W (hW : Fr w4 W) => cxR_any cs ca cc W (hcs.out.fr (hfw.out.trans hW)) h64 hft
        have hit := fun W (hW : Fr w4 W) => IntR_any (cx cs) (by omega) (by omega) W (hG.fr (hfw.out.trans hW))
        obtain ⟨S, hS⟩ : ∃ S, S = tx (cx cs) := ⟨_, rfl⟩
        rw [← hS] at hit hCx
        rw [← hnc.out] at hcm
        obtain ⟨z, hz⟩ : ∃ z, z = cx cs := ⟨_, rfl⟩
        rw [← hz] at hcm hit
        replace hz := Lib.hid hz
        replace hS := Lib.hid hS
        replace hcm := Lib.hid hcm
        replace hit := Lib.hid hit
        replace hft := Lib.hid hft
        clear h64 hcb
        by_cases e1 : E1 = 0
        · rw [if_pos e1] at hRd hSm
          have q1 : (E1 != 0) = false := by rw [e1]; rfl
          obtain ⟨v0, v1, v2, v3⟩ := spE_inv (hE1.symm.trans e1)
          obtain ⟨k, rfl⟩ : ∃ k : Nat, i = k := ⟨i.toNat, by omega⟩
          rw [Int.toNat_natCast] at hRd hSm
          have hrd := fun W (hW : Fr w4 W) => read_law d aN aA cN cA N A k cs ca cc W (hG.fr (hfw.out.trans hW)) (hn.out.fr hW) hok.ok (by omega) (hcs.out.fr (hfw.out.trans hW)) v2 v3
          have hSl := sumS_length hok.ok (i := k) (by omega) cs
          have hSb : ∀ x, x ∈ sumS N A (k, cs) → -10000000000000000000 ≤ x ∧ x ≤ 10000000000000000000 := fun x hx => by
            obtain ⟨s, hs⟩ : ∃ s, N[k]? = some s := ⟨_, List.getElem?_eq_getElem (by omega)⟩
            have h := sumL_bd cs (A.map Sy.row) (rowOf N k) 1000000000 (fun y hy => by rw [rowOf_eq hs] at hy; exact fitB_bd (hok.ok.fit s (List.mem_append_left _ (List.mem_of_getElem? hs)) y hy)) v3 (fun r hr => by obtain ⟨t, ht, rfl⟩ := List.mem_map.1 hr; exact hok.ok.fit t (List.mem_append_right _ ht))
            have h2 := h x hx
            have h3 : cs.length ≤ 3 := by rw [v2, ← hnA.out]; exact hA3
            omega
          rw [← hnN.out, ← hnA.out, ← hnc.out] at hrd
          have hd1 := hok.d1
          obtain ⟨SS, hSS⟩ : ∃ SS, SS = sumS N A (k, cs) := ⟨_, rfl⟩
          rw [← hSS] at hRd hSm hrd hSl hSb
          have hgr := fun W a c (hW : Fr w4 W) (h : El W sv a SS) => greatL_any SS a c W (hG.fr (hfw.out.trans hW)) h (by omega) (fun x hx => by have := hSb x hx; unfold Md; omega)
          have hin := fun W a c (hW : Fr w4 W) (h : El W iv a SS) (hf : ∀ x, x ∈ SS → fitB x = true) => ints_any SS a c W (hG.fr (hfw.out.trans hW)) h (by omega) (fun x hx => by have := fitB_bd (hf x hx); omega)
          have heq := fun W a b c1 c2 (h1 : El W sv a SS) (h2 : El W sv b SS) => Equal_txs SS SS a b c1 c2 W h1 h2 (by omega) (by omega)
          rw [great_fit, hSl] at hgr
          rw [hSl] at hin heq
          rw [decide_eq_true (rfl : SS = SS)] at heq
          unfold rowE at hRd
          rw [if_neg (by omega)] at hRd
          clear v0 v1 v2 v3 hSb
          replace hSS := Lib.hid hSS
          replace hrd := Lib.hid hrd
          replace heq := Lib.hid heq
          replace e0 := Lib.hid e0
          replace e1 := Lib.hid e1
          obtain ⟨gf, hgf⟩ : ∃ gf, gf = SS.any (fun n => !fitB n) := ⟨_, rfl⟩
          rw [← hgf] at hgr hRd
          have hall : gf = false → ∀ x, x ∈ SS → fitB x = true := fun h x hx => by
            cases hb : fitB x with
            | true => rfl
            | false =>
              have h9 : SS.any (fun n => !fitB n) = true := List.any_eq_true.2 ⟨x, hx, by rw [hb]; rfl⟩
              rw [← hgf, h] at h9
              cases h9
          replace hSl := Lib.hid hSl
          replace hgf := Lib.hid hgf
          replace hgr := Lib.hid hgr
          by_cases e2 : E2 = 0
          · have q2 : (E2 != 0) = false := by rw [e2]; rfl
            obtain ⟨v0, v1, v2, v3⟩ := spE_inv (hE2.symm.trans e2)
            obtain ⟨l, rfl⟩ : ∃ l : Nat, j = l := ⟨j.toNat, by omega⟩
            rw [Int.toNat_natCast] at hSm
            have hrdt := fun W (hW : Fr w4 W) => read_law d aN aA cN cA N A l ds da dc W (hG.fr (hfw.out.trans hW)) (hn.out.fr hW) hok.ok (by omega) (hds.out.fr (hfw.out.trans hW)) v2 v3
            have hTl := sumS_length hok.ok (i := l) (by omega) ds
            rw [← hnN.out, ← hnA.out, ← hnd.out] at hrdt
            obtain ⟨TT, hTT⟩ : ∃ TT, TT = sumS N A (l, ds) := ⟨_, rfl⟩
            rw [← hTT] at hSm hrdt hTl
            have heqt := fun W a b c1 c2 (h1 : El W sv a SS) (h2 : El W sv b TT) => Equal_txs SS TT a b c1 c2 W h1 h2 (by have := hSl.out; omega) (by omega)
            rw [hSl.out, hTl] at heqt
            obtain ⟨qq, hqq⟩ : ∃ qq, qq = decide (SS = TT) := ⟨_, rfl⟩
            rw [← hqq] at heqt hSm
            replace hqq := Lib.hid hqq
            replace hTT := Lib.hid hTT
            replace hTl := Lib.hid hTl
            replace hrdt := Lib.hid hrdt
            replace heqt := Lib.hid heqt
            replace e2 := Lib.hid e2
            clear v0 v1 v2 v3
            cases gf with
            | true =>
              clear hin hall
              replace hE0 := Lib.hid hE0
              replace hE1 := Lib.hid hE1
              replace hE2 := Lib.hid hE2
              replace hRd := Lib.hid hRd
              replace hCx := Lib.hid hCx
              replace hSm := Lib.hid hSm
              replace hCk := Lib.hid hCk
              replace hEr := Lib.hid hEr
              replace hEt := Lib.hid hEt
              go_wp2_with fail
              refine (hRd.out _ (Fr.refl _)).mono ?_
              rintro e w5 ⟨h0, h1, hf5⟩
              obtain rfl := h1 (by decide)
              clear h0 h1
              replace x0 := hf5.keep x0
              replace x1 := hf5.keep x1
              replace y0 := hf5.keep y0
              replace y1 := hf5.keep y1
              replace n0 := hf5.keep n0
              replace n1 := hf5.keep n1
              go_wp2_with fail
              refine (hCx.out _ hf5).mono ?_
              rintro e w6 ⟨c0, c1, hf6⟩
              obtain rfl := c0 e0.out
              clear c0 c1
              replace x0 := hf6.keep x0
              replace x1 := hf6.keep x1
              replace y0 := hf6.keep y0
              replace y1 := hf6.keep y1
              replace n0 := hf6.keep n0
              replace n1 := hf6.keep n1
              go_wp2_with fail
              refine (hSm.out _ (hf5.trans hf6)).mono ?_
              rintro e w7 ⟨s0, s1, hf7⟩
              obtain rfl := s0 e2.out
              clear s0 s1
              replace x0 := hf7.keep x0
              replace x1 := hf7.keep x1
              replace y0 := hf7.keep y0
              replace y1 := hf7.keep y1
              replace n0 := hf7.keep n0
              replace n1 := hf7.keep n1
              go_wp2_with fail
              refine (hCk.out _ ((hf5.trans hf6).trans hf7)).mono ?_
              rintro e w8 ⟨rfl, hf8⟩
              replace x0 := hf8.keep x0
              replace x1 := hf8.keep x1
              replace y0 := hf8.keep y0
              replace y1 := hf8.keep y1
              replace n0 := hf8.keep n0
              replace n1 := hf8.keep n1
              have hf48 := ((hf5.trans hf6).trans hf7).trans hf8
              have hf58 := (hf6.trans hf7).trans hf8
              clear hf5 hf6 hf7 hf8
              go_wp2_with fail
              refine (hcm.out _ hf48).mono ?_
              rintro e w9 ⟨rfl, hf9⟩
              replace hf9 := hf9.fr
              replace x0 := hf9.keep x0
              replace x1 := hf9.keep x1
              replace y0 := hf9.keep y0
              replace y1 := hf9.keep y1
              replace n0 := hf9.keep n0
              replace n1 := hf9.keep n1
              go_wp2_with fail
              refine (hit.out _ (hf48.trans hf9)).mono ?_
              rintro e w10 ⟨rfl, hf10⟩
              replace x0 := hf10.keep x0
              replace x1 := hf10.keep x1
              replace y0 := hf10.keep y0
              replace y1 := hf10.keep y1
              replace n0 := hf10.keep n0
              replace n1 := hf10.keep n1
              go_wp2_with fail
              refine (hEr.out _ ((hf48.trans hf9).trans hf10)).mono ?_
              rintro e w11 ⟨rfl, hf11⟩
              replace x0 := hf11.keep x0
              replace x1 := hf11.keep x1
              replace y0 := hf11.keep y0
              replace y1 := hf11.keep y1
              replace n0 := hf11.keep n0
              replace n1 := hf11.keep n1
              have hf4b := ((hf48.trans hf9).trans hf10).trans hf11
              have hf5b := ((hf58.trans hf9).trans hf10).trans hf11
              clear hf9 hf10 hf11 hf48 hf58
              go_wp2_with fail
              refine (hrd.out _ hf4b).mono ?_
              rintro e w12 ⟨a12, c12, rfl, he12, hc12, hf12⟩
              rw [hSl.out]
              replace x0 := hf12.keep x0
              replace x1 := hf12.keep x1
              replace y0 := hf12.keep y0
              replace y1 := hf12.keep y1
              replace n0 := hf12.keep n0
              replace n1 := hf12.keep n1
              replace he12 := Lib.hid he12
              go_wp2_with fail
              refine (hgr.out _ _ _ (hf4b.trans hf12) he12.out).mono ?_
              rintro e w13 ⟨rfl, hf13⟩
              replace x0 := hf13.keep x0
              replace x1 := hf13.keep x1
              replace y0 := hf13.keep y0
              replace y1 := hf13.keep y1
              replace n0 := hf13.keep n0
              replace n1 := hf13.keep n1
              go_wp2_with fail
              refine (hgr.out _ _ _ ((hf4b.trans hf12).trans hf13) (he12.out.fr hf13)).mono ?_
              rintro e w14 ⟨rfl, hf14⟩
              replace x0 := hf14.keep x0
              replace x1 := hf14.keep x1
              replace y0 := hf14.keep y0
              replace y1 := hf14.keep y1
              replace n0 := hf14.keep n0
              replace n1 := hf14.keep n1
              have hf4e := ((hf4b.trans hf12).trans hf13).trans hf14
              have hf5e := ((hf5b.trans hf12).trans hf13).trans hf14
              have hfce := hf13.trans hf14
              clear hf12 hf13 hf14
              skip
              go_wp2_with fail
              refine (hEt.out _ hf4e).mono ?_
              rintro e w17 ⟨rfl, hf17⟩
              replace x0 := hf17.keep x0
              replace x1 := hf17.keep x1
              replace y0 := hf17.keep y0
              replace y1 := hf17.keep y1
              replace n0 := hf17.keep n0
              replace n1 := hf17.keep n1
              go_wp2_with fail
              refine (hrdt.out _ (hf4e.trans hf17)).mono ?_
              rintro e w18 ⟨a18, c18, rfl, he18, hc18, hf18⟩
              rw [hTl.out]
              go_wp2_with fail
              refine (heqt.out _ _ _ _ _ (he12.out.fr ((hfce.trans hf17).trans hf18)) he18).mono ?_
              rintro e w19 ⟨rfl, hf19⟩
              go_wp2_with fail
              go_ret
              exact ⟨rfl, (((hfw.out.trans hf4e).trans hf17).trans hf18).trans hf19⟩
            | false =>
              replace hin := Lib.hid (fun W a c (hW : Fr w4 W) (h : El W iv a SS) => hin W a c hW h (hall rfl))
              clear hall
              replace hE0 := Lib.hid hE0
              replace hE1 := Lib.hid hE1
              replace hE2 := Lib.hid hE2
              replace hRd := Lib.hid hRd
              replace hCx := Lib.hid hCx
              replace hSm := Lib.hid hSm
              replace hCk := Lib.hid hCk
              replace hEr := Lib.hid hEr
              replace hEt := Lib.hid hEt
              go_wp2_with fail
              refine (hRd.out _ (Fr.refl _)).mono ?_
              rintro e w5 ⟨h0, h1, hf5⟩
              obtain ⟨g5, c5, rfl, hg5, hel5⟩ := h0 rfl; rw [hSl.out]; replace hel5 := Lib.hid hel5
              clear h0 h1
              replace x0 := hf5.keep x0
              replace x1 := hf5.keep x1
              replace y0 := hf5.keep y0
              replace y1 := hf5.keep y1
              replace n0 := hf5.keep n0
              replace n1 := hf5.keep n1
              go_wp2_with fail
              refine (hCx.out _ hf5).mono ?_
              rintro e w6 ⟨c0, c1, hf6⟩
              obtain rfl := c0 e0.out
              clear c0 c1
              replace x0 := hf6.keep x0
              replace x1 := hf6.keep x1
              replace y0 := hf6.keep y0
              replace y1 := hf6.keep y1
              replace n0 := hf6.keep n0
              replace n1 := hf6.keep n1
              go_wp2_with fail
              refine (hSm.out _ (hf5.trans hf6)).mono ?_
              rintro e w7 ⟨s0, s1, hf7⟩
              obtain rfl := s0 e2.out
              clear s0 s1
              replace x0 := hf7.keep x0
              replace x1 := hf7.keep x1
              replace y0 := hf7.keep y0
              replace y1 := hf7.keep y1
              replace n0 := hf7.keep n0
              replace n1 := hf7.keep n1
              go_wp2_with fail
              refine (hCk.out _ ((hf5.trans hf6).trans hf7)).mono ?_
              rintro e w8 ⟨rfl, hf8⟩
              replace x0 := hf8.keep x0
              replace x1 := hf8.keep x1
              replace y0 := hf8.keep y0
              replace y1 := hf8.keep y1
              replace n0 := hf8.keep n0
              replace n1 := hf8.keep n1
              have hf48 := ((hf5.trans hf6).trans hf7).trans hf8
              have hf58 := (hf6.trans hf7).trans hf8
              clear hf5 hf6 hf7 hf8
              go_wp2_with fail
              refine (hcm.out _ hf48).mono ?_
              rintro e w9 ⟨rfl, hf9⟩
              replace hf9 := hf9.fr
              replace x0 := hf9.keep x0
              replace x1 := hf9.keep x1
              replace y0 := hf9.keep y0
              replace y1 := hf9.keep y1
              replace n0 := hf9.keep n0
              replace n1 := hf9.keep n1
              go_wp2_with fail
              refine (hit.out _ (hf48.trans hf9)).mono ?_
              rintro e w10 ⟨rfl, hf10⟩
              replace x0 := hf10.keep x0
              replace x1 := hf10.keep x1
              replace y0 := hf10.keep y0
              replace y1 := hf10.keep y1
              replace n0 := hf10.keep n0
              replace n1 := hf10.keep n1
              go_wp2_with fail
              refine (hEr.out _ ((hf48.trans hf9).trans hf10)).mono ?_
              rintro e w11 ⟨rfl, hf11⟩
              replace x0 := hf11.keep x0
              replace x1 := hf11.keep x1
              replace y0 := hf11.keep y0
              replace y1 := hf11.keep y1
              replace n0 := hf11.keep n0
              replace n1 := hf11.keep n1
              have hf4b := ((hf48.trans hf9).trans hf10).trans hf11
              have hf5b := ((hf58.trans hf9).trans hf10).trans hf11
              clear hf9 hf10 hf11 hf48 hf58
              go_wp2_with fail
              refine (hrd.out _ hf4b).mono ?_
              rintro e w12 ⟨a12, c12, rfl, he12, hc12, hf12⟩
              rw [hSl.out]
              replace x0 := hf12.keep x0
              replace x1 := hf12.keep x1
              replace y0 := hf12.keep y0
              replace y1 := hf12.keep y1
              replace n0 := hf12.keep n0
              replace n1 := hf12.keep n1
              replace he12 := Lib.hid he12
              go_wp2_with fail
              refine (hgr.out _ _ _ (hf4b.trans hf12) he12.out).mono ?_
              rintro e w13 ⟨rfl, hf13⟩
              replace x0 := hf13.keep x0
              replace x1 := hf13.keep x1
              replace y0 := hf13.keep y0
              replace y1 := hf13.keep y1
              replace n0 := hf13.keep n0
              replace n1 := hf13.keep n1
              go_wp2_with fail
              refine (hgr.out _ _ _ ((hf4b.trans hf12).trans hf13) (he12.out.fr hf13)).mono ?_
              rintro e w14 ⟨rfl, hf14⟩
              replace x0 := hf14.keep x0
              replace x1 := hf14.keep x1
              replace y0 := hf14.keep y0
              replace y1 := hf14.keep y1
              replace n0 := hf14.keep n0
              replace n1 := hf14.keep n1
              have hf4e := ((hf4b.trans hf12).trans hf13).trans hf14
              have hf5e := ((hf5b.trans hf12).trans hf13).trans hf14
              have hfce := hf13.trans hf14
              clear hf12 hf13 hf14
              go_wp2_with fail
              refine (hin.out _ _ _ hf4e (hel5.out.fr hf5e)).mono ?_
              rintro e w15 ⟨a15, c15, rfl, he15, hc15, hf15⟩
              rw [hSl.out]
              replace x0 := hf15.keep x0
              replace x1 := hf15.keep x1
              replace y0 := hf15.keep y0
              replace y1 := hf15.keep y1
              replace n0 := hf15.keep n0
              replace n1 := hf15.keep n1
              go_wp2_with fail
              refine (heq.out _ _ _ _ _ he15 (he12.out.fr (hfce.trans hf15))).mono ?_
              rintro e w16 ⟨rfl, hf16⟩
              replace x0 := hf16.keep x0
              replace x1 := hf16.keep x1
              replace y0 := hf16.keep y0
              replace y1 := hf16.keep y1
              replace n0 := hf16.keep n0
              replace n1 := hf16.keep n1
              replace hf4e := (hf4e.trans hf15).trans hf16
              replace hfce := (hfce.trans hf15).trans hf16
              clear hf15 hf16 he15
              go_wp2_with fail
              refine (hEt.out _ hf4e).mono ?_
              rintro e w17 ⟨rfl, hf17⟩
              replace x0 := hf17.keep x0
              replace x1 := hf17.keep x1
              replace y0 := hf17.keep y0
              replace y1 := hf17.keep y1
              replace n0 := hf17.keep n0
              replace n1 := hf17.keep n1
              go_wp2_with fail
              refine (hrdt.out _ (hf4e.trans hf17)).mono ?_
              rintro e w18 ⟨a18, c18, rfl, he18, hc18, hf18⟩
              rw [hTl.out]
              go_wp2_with fail
              refine (heqt.out _ _ _ _ _ (he12.out.fr ((hfce.trans hf17).trans hf18)) he18).mono ?_
              rintro e w19 ⟨rfl, hf19⟩
              go_wp2_with fail
              go_ret
              exact ⟨rfl, (((hfw.out.trans hf4e).trans hf17).trans hf18).trans hf19⟩
          · have q2 : (E2 != 0) = true := bne_iff_ne.2 e2
            replace e2 := Lib.hid e2
            cases gf with
            | true =>
              clear hin hall
              replace hE0 := Lib.hid hE0
              replace hE1 := Lib.hid hE1
              replace hE2 := Lib.hid hE2
              replace hRd := Lib.hid hRd
              replace hCx := Lib.hid hCx
              replace hSm := Lib.hid hSm
              replace hCk := Lib.hid hCk
              replace hEr := Lib.hid hEr
              replace hEt := Lib.hid hEt
              go_wp2_with fail
              refine (hRd.out _ (Fr.refl _)).mono ?_
              rintro e w5 ⟨h0, h1, hf5⟩
              obtain rfl := h1 (by decide)
              clear h0 h1
              replace x0 := hf5.keep x0
              replace x1 := hf5.keep x1
              replace y0 := hf5.keep y0
              replace y1 := hf5.keep y1
              replace n0 := hf5.keep n0
              replace n1 := hf5.keep n1
              go_wp2_with fail
              refine (hCx.out _ hf5).mono ?_
              rintro e w6 ⟨c0, c1, hf6⟩
              obtain rfl := c0 e0.out
              clear c0 c1
              replace x0 := hf6.keep x0
              replace x1 := hf6.keep x1
              replace y0 := hf6.keep y0
              replace y1 := hf6.keep y1
              replace n0 := hf6.keep n0
              replace n1 := hf6.keep n1
              go_wp2_with fail
              refine (hSm.out _ (hf5.trans hf6)).mono ?_
              rintro e w7 ⟨s0, s1, hf7⟩
              obtain rfl := s1 e2.out
              clear s0 s1
              replace x0 := hf7.keep x0
              replace x1 := hf7.keep x1
              replace y0 := hf7.keep y0
              replace y1 := hf7.keep y1
              replace n0 := hf7.keep n0
              replace n1 := hf7.keep n1
              go_wp2_with fail
              refine (hCk.out _ ((hf5.trans hf6).trans hf7)).mono ?_
              rintro e w8 ⟨rfl, hf8⟩
              replace x0 := hf8.keep x0
              replace x1 := hf8.keep x1
              replace y0 := hf8.keep y0
              replace y1 := hf8.keep y1
              replace n0 := hf8.keep n0
              replace n1 := hf8.keep n1
              have hf48 := ((hf5.trans hf6).trans hf7).trans hf8
              have hf58 := (hf6.trans hf7).trans hf8
              clear hf5 hf6 hf7 hf8
              go_wp2_with fail
              refine (hcm.out _ hf48).mono ?_
              rintro e w9 ⟨rfl, hf9⟩
              replace hf9 := hf9.fr
              replace x0 := hf9.keep x0
              replace x1 := hf9.keep x1
              replace y0 := hf9.keep y0
              replace y1 := hf9.keep y1
              replace n0 := hf9.keep n0
              replace n1 := hf9.keep n1
              go_wp2_with fail
              refine (hit.out _ (hf48.trans hf9)).mono ?_
              rintro e w10 ⟨rfl, hf10⟩
              replace x0 := hf10.keep x0
              replace x1 := hf10.keep x1
              replace y0 := hf10.keep y0
              replace y1 := hf10.keep y1
              replace n0 := hf10.keep n0
              replace n1 := hf10.keep n1
              go_wp2_with fail
              refine (hEr.out _ ((hf48.trans hf9).trans hf10)).mono ?_
              rintro e w11 ⟨rfl, hf11⟩
              replace x0 := hf11.keep x0
              replace x1 := hf11.keep x1
              replace y0 := hf11.keep y0
              replace y1 := hf11.keep y1
              replace n0 := hf11.keep n0
              replace n1 := hf11.keep n1
              have hf4b := ((hf48.trans hf9).trans hf10).trans hf11
              have hf5b := ((hf58.trans hf9).trans hf10).trans hf11
              clear hf9 hf10 hf11 hf48 hf58
              go_wp2_with fail
              refine (hrd.out _ hf4b).mono ?_
              rintro e w12 ⟨a12, c12, rfl, he12, hc12, hf12⟩
              rw [hSl.out]
              replace x0 := hf12.keep x0
              replace x1 := hf12.keep x1
              replace y0 := hf12.keep y0
              replace y1 := hf12.keep y1
              replace n0 := hf12.keep n0
              replace n1 := hf12.keep n1
              replace he12 := Lib.hid he12
              go_wp2_with fail
              refine (hgr.out _ _ _ (hf4b.trans hf12) he12.out).mono ?_
              rintro e w13 ⟨rfl, hf13⟩
              replace x0 := hf13.keep x0
              replace x1 := hf13.keep x1
              replace y0 := hf13.keep y0
              replace y1 := hf13.keep y1
              replace n0 := hf13.keep n0
              replace n1 := hf13.keep n1
              go_wp2_with fail
              refine (hgr.out _ _ _ ((hf4b.trans hf12).trans hf13) (he12.out.fr hf13)).mono ?_
              rintro e w14 ⟨rfl, hf14⟩
              replace x0 := hf14.keep x0
              replace x1 := hf14.keep x1
              replace y0 := hf14.keep y0
              replace y1 := hf14.keep y1
              replace n0 := hf14.keep n0
              replace n1 := hf14.keep n1
              have hf4e := ((hf4b.trans hf12).trans hf13).trans hf14
              have hf5e := ((hf5b.trans hf12).trans hf13).trans hf14
              have hfce := hf13.trans hf14
              clear hf12 hf13 hf14
              skip
              go_wp2_with fail
              refine (hEt.out _ hf4e).mono ?_
              rintro e w17 ⟨rfl, hf17⟩
              replace x0 := hf17.keep x0
              replace x1 := hf17.keep x1
              replace y0 := hf17.keep y0
              replace y1 := hf17.keep y1
              replace n0 := hf17.keep n0
              replace n1 := hf17.keep n1
              go_wp2_with fail
              go_ret
              exact ⟨rfl, (hfw.out.trans hf4e).trans hf17⟩
            | false =>
              replace hin := Lib.hid (fun W a c (hW : Fr w4 W) (h : El W iv a SS) => hin W a c hW h (hall rfl))
              clear hall
              replace hE0 := Lib.hid hE0
              replace hE1 := Lib.hid hE1
              replace hE2 := Lib.hid hE2
              replace hRd := Lib.hid hRd
              replace hCx := Lib.hid hCx
              replace hSm := Lib.hid hSm
              replace hCk := Lib.hid hCk
              replace hEr := Lib.hid hEr
              replace hEt := Lib.hid hEt
              go_wp2_with fail
              refine (hRd.out _ (Fr.refl _)).mono ?_
              rintro e w5 ⟨h0, h1, hf5⟩
              obtain ⟨g5, c5, rfl, hg5, hel5⟩ := h0 rfl; rw [hSl.out]; replace hel5 := Lib.hid hel5
              clear h0 h1
              replace x0 := hf5.keep x0
              replace x1 := hf5.keep x1
              replace y0 := hf5.keep y0
              replace y1 := hf5.keep y1
              replace n0 := hf5.keep n0
              replace n1 := hf5.keep n1
              go_wp2_with fail
              refine (hCx.out _ hf5).mono ?_
              rintro e w6 ⟨c0, c1, hf6⟩
              obtain rfl := c0 e0.out
              clear c0 c1
              replace x0 := hf6.keep x0
              replace x1 := hf6.keep x1
              replace y0 := hf6.keep y0
              replace y1 := hf6.keep y1
              replace n0 := hf6.keep n0
              replace n1 := hf6.keep n1
              go_wp2_with fail
              refine (hSm.out _ (hf5.trans hf6)).mono ?_
              rintro e w7 ⟨s0, s1, hf7⟩
              obtain rfl := s1 e2.out
              clear s0 s1
              replace x0 := hf7.keep x0
              replace x1 := hf7.keep x1
              replace y0 := hf7.keep y0
              replace y1 := hf7.keep y1
              replace n0 := hf7.keep n0
              replace n1 := hf7.keep n1
              go_wp2_with fail
              refine (hCk.out _ ((hf5.trans hf6).trans hf7)).mono ?_
              rintro e w8 ⟨rfl, hf8⟩
              replace x0 := hf8.keep x0
              replace x1 := hf8.keep x1
              replace y0 := hf8.keep y0
              replace y1 := hf8.keep y1
              replace n0 := hf8.keep n0
              replace n1 := hf8.keep n1
              have hf48 := ((hf5.trans hf6).trans hf7).trans hf8
              have hf58 := (hf6.trans hf7).trans hf8
              clear hf5 hf6 hf7 hf8
              go_wp2_with fail
              refine (hcm.out _ hf48).mono ?_
              rintro e w9 ⟨rfl, hf9⟩
              replace hf9 := hf9.fr
              replace x0 := hf9.keep x0
              replace x1 := hf9.keep x1
              replace y0 := hf9.keep y0
              replace y1 := hf9.keep y1
              replace n0 := hf9.keep n0
              replace n1 := hf9.keep n1
              go_wp2_with fail
              refine (hit.out _ (hf48.trans hf9)).mono ?_
              rintro e w10 ⟨rfl, hf10⟩
              replace x0 := hf10.keep x0
              replace x1 := hf10.keep x1
              replace y0 := hf10.keep y0
              replace y1 := hf10.keep y1
              replace n0 := hf10.keep n0
              replace n1 := hf10.keep n1
              go_wp2_with fail
              refine (hEr.out _ ((hf48.trans hf9).trans hf10)).mono ?_
              rintro e w11 ⟨rfl, hf11⟩
              replace x0 := hf11.keep x0
              replace x1 := hf11.keep x1
              replace y0 := hf11.keep y0
              replace y1 := hf11.keep y1
              replace n0 := hf11.keep n0
              replace n1 := hf11.keep n1
              have hf4b := ((hf48.trans hf9).trans hf10).trans hf11
              have hf5b := ((hf58.trans hf9).trans hf10).trans hf11
              clear hf9 hf10 hf11 hf48 hf58
              go_wp2_with fail
              refine (hrd.out _ hf4b).mono ?_
              rintro e w12 ⟨a12, c12, rfl, he12, hc12, hf12⟩
              rw [hSl.out]
              replace x0 := hf12.keep x0
              replace x1 := hf12.keep x1
              replace y0 := hf12.keep y0
              replace y1 := hf12.keep y1
              replace n0 := hf12.keep n0
              replace n1 := hf12.keep n1
              replace he12 := Lib.hid he12
              go_wp2_with fail
              refine (hgr.out _ _ _ (hf4b.trans hf12) he12.out).mono ?_
              rintro e w13 ⟨rfl, hf13⟩
              replace x0 := hf13.keep x0
              replace x1 := hf13.keep x1
              replace y0 := hf13.keep y0
              replace y1 := hf13.keep y1
              replace n0 := hf13.keep n0
              replace n1 := hf13.keep n1
              go_wp2_with fail
              refine (hgr.out _ _ _ ((hf4b.trans hf12).trans hf13) (he12.out.fr hf13)).mono ?_
              rintro e w14 ⟨rfl, hf14⟩
              replace x0 := hf14.keep x0
              replace x1 := hf14.keep x1
              replace y0 := hf14.keep y0
              replace y1 := hf14.keep y1
              replace n0 := hf14.keep n0
              replace n1 := hf14.keep n1
              have hf4e := ((hf4b.trans hf12).trans hf13).trans hf14
              have hf5e := ((hf5b.trans hf12).trans hf13).trans hf14
              have hfce := hf13.trans hf14
              clear hf12 hf13 hf14
              go_wp2_with fail
              refine (hin.out _ _ _ hf4e (hel5.out.fr hf5e)).mono ?_
              rintro e w15 ⟨a15, c15, rfl, he15, hc15, hf15⟩
              rw [hSl.out]
              replace x0 := hf15.keep x0
              replace x1 := hf15.keep x1
              replace y0 := hf15.keep y0
              replace y1 := hf15.keep y1
              replace n0 := hf15.keep n0
              replace n1 := hf15.keep n1
              go_wp2_with fail
              refine (heq.out _ _ _ _ _ he15 (he12.out.fr (hfce.trans hf15))).mono ?_
              rintro e w16 ⟨rfl, hf16⟩
              replace x0 := hf16.keep x0
              replace x1 := hf16.keep x1
              replace y0 := hf16.keep y0
              replace y1 := hf16.keep y1
              replace n0 := hf16.keep n0
              replace n1 := hf16.keep n1
              replace hf4e := (hf4e.trans hf15).trans hf16
              replace hfce := (hfce.trans hf15).trans hf16
              clear hf15 hf16 he15
              go_wp2_with fail
              refine (hEt.out _ hf4e).mono ?_
              rintro e w17 ⟨rfl, hf17⟩
              replace x0 := hf17.keep x0
              replace x1 := hf17.keep x1
              replace y0 := hf17.keep y0
              replace y1 := hf17.keep y1
              replace n0 := hf17.keep n0
              replace n1 := hf17.keep n1
              go_wp2_with fail
              go_ret
              exact ⟨rfl, (hfw.out.trans hf4e).trans hf17⟩
        · rw [if_neg e1] at hRd hSm
          have q1 : (E1 != 0) = true := bne_iff_ne.2 e1
          replace e0 := Lib.hid e0
          replace e1 := Lib.hid e1
          replace hE0 := Lib.hid hE0
          replace hE1 := Lib.hid hE1
          replace hE2 := Lib.hid hE2
          replace hRd := Lib.hid hRd
          replace hCx := Lib.hid hCx
          replace hSm := Lib.hid hSm
          replace hCk := Lib.hid hCk
          replace hEr := Lib.hid hEr
          replace hEt := Lib.hid hEt
          go_wp2_with fail
          refine (hRd.out _ (Fr.refl _)).mono ?_
          rintro e w5 ⟨h0, h1, hf5⟩
          obtain rfl := h1 e1.out
          clear h0 h1
          replace x0 := hf5.keep x0
          replace x1 := hf5.keep x1
          replace y0 := hf5.keep y0
          replace y1 := hf5.keep y1
          replace n0 := hf5.keep n0
          replace n1 := hf5.keep n1
          go_wp2_with fail
          refine (hCx.out _ hf5).mono ?_
          rintro e w6 ⟨c0, c1, hf6⟩
          obtain rfl := c0 e0.out
          clear c0 c1
          replace x0 := hf6.keep x0
          replace x1 := hf6.keep x1
          replace y0 := hf6.keep y0
          replace y1 := hf6.keep y1
          replace n0 := hf6.keep n0
          replace n1 := hf6.keep n1
          go_wp2_with fail
          refine (hSm.out _ (hf5.trans hf6)).mono ?_
          rintro e w7 ⟨s0, s1, hf7⟩
          obtain rfl := s1 e1.out
          clear s0 s1
          replace x0 := hf7.keep x0
          replace x1 := hf7.keep x1
          replace y0 := hf7.keep y0
          replace y1 := hf7.keep y1
          replace n0 := hf7.keep n0
          replace n1 := hf7.keep n1
          go_wp2_with fail
          refine (hCk.out _ ((hf5.trans hf6).trans hf7)).mono ?_
          rintro e w8 ⟨rfl, hf8⟩
          replace x0 := hf8.keep x0
          replace x1 := hf8.keep x1
          replace y0 := hf8.keep y0
          replace y1 := hf8.keep y1
          replace n0 := hf8.keep n0
          replace n1 := hf8.keep n1
          have hf48 := ((hf5.trans hf6).trans hf7).trans hf8
          have hf58 := (hf6.trans hf7).trans hf8
          clear hf5 hf6 hf7 hf8
          go_wp2_with fail
          refine (hcm.out _ hf48).mono ?_
          rintro e w9 ⟨rfl, hf9⟩
          replace hf9 := hf9.fr
          replace x0 := hf9.keep x0
          replace x1 := hf9.keep x1
          replace y0 := hf9.keep y0
          replace y1 := hf9.keep y1
          replace n0 := hf9.keep n0
          replace n1 := hf9.keep n1
          go_wp2_with fail
          refine (hit.out _ (hf48.trans hf9)).mono ?_
          rintro e w10 ⟨rfl, hf10⟩
          replace x0 := hf10.keep x0
          replace x1 := hf10.keep x1
          replace y0 := hf10.keep y0
          replace y1 := hf10.keep y1
          replace n0 := hf10.keep n0
          replace n1 := hf10.keep n1
          go_wp2_with fail
          refine (hEr.out _ ((hf48.trans hf9).trans hf10)).mono ?_
          rintro e w11 ⟨rfl, hf11⟩
          go_wp2_with fail
          go_ret
          exact ⟨rfl, (((hfw.out.trans hf48).trans hf9).trans hf10).trans hf11⟩
      · have e1 : E1 ≠ 0 := fun h => e0 (by rw [hE0]; exact spE_row (hE1.symm.trans h))
        rw [if_neg e1] at hRd hSm
        have q0 : (E0 != 0) = true := bne_iff_ne.2 e0
        have q1 : (E1 != 0) = true := bne_iff_ne.2 e1
        replace e0 := Lib.hid e0
        replace e1 := Lib.hid e1
        replace hE0 := Lib.hid hE0
        replace hE1 := Lib.hid hE1
        replace hE2 := Lib.hid hE2
        replace hRd := Lib.hid hRd
        replace hCx := Lib.hid hCx
        replace hSm := Lib.hid hSm
        replace hCk := Lib.hid hCk
        replace hEr := Lib.hid hEr
        replace hEt := Lib.hid hEt
        go_wp2_with fail
        refine (hRd.out _ (Fr.refl _)).mono ?_
        rintro e w5 ⟨h0, h1, hf5⟩
        obtain rfl := h1 e1.out
        clear h0 h1
        replace x0 := hf5.keep x0
        replace x1 := hf5.keep x1
        replace y0 := hf5.keep y0
        replace y1 := hf5.keep y1
        replace n0 := hf5.keep n0
        replace n1 := hf5.keep n1
        go_wp2_with fail
        refine (hCx.out _ hf5).mono ?_
        rintro e w6 ⟨c0, c1, hf6⟩
        obtain rfl := c1 e0.out
        clear c0 c1
        replace x0 := hf6.keep x0
        replace x1 := hf6.keep x1
        replace y0 := hf6.keep y0
        replace y1 := hf6.keep y1
        replace n0 := hf6.keep n0
        replace n1 := hf6.keep n1
        go_wp2_with fail
        refine (hSm.out _ (hf5.trans hf6)).mono ?_
        rintro e w7 ⟨s0, s1, hf7⟩
        obtain rfl := s1 e1.out
        clear s0 s1
        replace x0 := hf7.keep x0
        replace x1 := hf7.keep x1
        replace y0 := hf7.keep y0
        replace y1 := hf7.keep y1
        replace n0 := hf7.keep n0
        replace n1 := hf7.keep n1
        go_wp2_with fail
        refine (hCk.out _ ((hf5.trans hf6).trans hf7)).mono ?_
        rintro e w8 ⟨rfl, hf8⟩
        replace x0 := hf8.keep x0
        replace x1 := hf8.keep x1
        replace y0 := hf8.keep y0
        replace y1 := hf8.keep y1
        replace n0 := hf8.keep n0
        replace n1 := hf8.keep n1
        have hf48 := ((hf5.trans hf6).trans hf7).trans hf8
        have hf58 := (hf6.trans hf7).trans hf8
        clear hf5 hf6 hf7 hf8
        go_wp2_with fail
        refine (hEr.out _ hf48).mono ?_
        rintro e w9 ⟨rfl, hf9⟩
        go_wp2_with fail
        go_ret
        exact ⟨rfl, (hfw.out.trans hf48).trans hf9⟩
end Go.Proofs.YtphjfalibnnohaaGreatDoor
