/- schismalaw43.SpellingGrows returns true. -/
import Derived.Test.YtphjfalibnnohaaGreatDoorGrows
namespace Go.Proofs.YtphjfalibnnohaaGreatDoor
open Go.RowKit Go.Lib
attribute [local go_sem ↓] Go.wp_at_zero Go.wp_at_succ

set_option maxRecDepth 100000 in
set_option maxHeartbeats 4000000 in
theorem SpellingGrows_any (two : Bool) (nn na r0 r1 r2 r3 r4 r5 r6 r7 r8 r9 r10 r11 r12 r13 x y most : Int) (w : World) (hG : G w) (hnn : 0 ≤ nn ∧ nn ≤ 255) (hna : 0 ≤ na ∧ na ≤ 255) (hr : ∀ x, x ∈ [r0, r1, r2, r3, r4, r5, r6, r7, r8, r9, r10, r11, r12, r13] → fits8 x) (hx : fits8 x) (hy : fits8 y) (hm0 : 0 ≤ most ∧ most ≤ 255) :
    Calls Tryz.prog 3 #[.agg #[.bool two, .int .u8 nn, .int .u8 na, .int .i8 r0, .int .i8 r1, .int .i8 r2, .int .i8 r3, .int .i8 r4, .int .i8 r5, .int .i8 r6, .int .i8 r7, .int .i8 r8, .int .i8 r9, .int .i8 r10, .int .i8 r11, .int .i8 r12, .int .i8 r13], .agg #[.int .i8 x, .int .i8 y], .int .u8 most] w fun e w' => e = .returned (.bool true) ∧ Fr w w' := by
  obtain ⟨wb, hwb⟩ : ∃ wb, wb = (w.alloc (.cells #[.bool two, .int .u8 nn, .int .u8 na, .int .i8 r0, .int .i8 r1, .int .i8 r2, .int .i8 r3, .int .i8 r4, .int .i8 r5, .int .i8 r6, .int .i8 r7, .int .i8 r8, .int .i8 r9, .int .i8 r10, .int .i8 r11, .int .i8 r12, .int .i8 r13] 26)).alloc (.cells #[.int .i8 x, .int .i8 y] 23) := ⟨_, rfl⟩
  have hfb : Fr w wb := by rw [hwb]; exact ((Fr.refl w).alloc _).alloc _
  have hkn := Lib.hid (known_any wb (hG.fr hfb))
  replace hkn := hkn.out
  rw [hwb] at hkn
  replace hkn := Lib.hid hkn
  go_enter Tryz.func3, Tryz.ntmps3
  go_wp2_with fail
  refine hkn.out.mono ?_
  rintro e w1 ⟨rfl, hf1⟩
  rw [← hwb] at hf1
  have g0 : wb.heap[w.heap.size]? = some (.cells #[.bool two, .int .u8 nn, .int .u8 na, .int .i8 r0, .int .i8 r1, .int .i8 r2, .int .i8 r3, .int .i8 r4, .int .i8 r5, .int .i8 r6, .int .i8 r7, .int .i8 r8, .int .i8 r9, .int .i8 r10, .int .i8 r11, .int .i8 r12, .int .i8 r13] 26 (0, 0)) := by
    rw [hwb]; exact (Below.heap_alloc _ _ _ (by simp)).trans (heap_alloc_new w _)
  have g9 : wb.heap[w.heap.size + 1]? = some (.cells #[.int .i8 x, .int .i8 y] 23 (0, 0)) := by
    have := heap_alloc_new (w.alloc (.cells #[.bool two, .int .u8 nn, .int .u8 na, .int .i8 r0, .int .i8 r1, .int .i8 r2, .int .i8 r3, .int .i8 r4, .int .i8 r5, .int .i8 r6, .int .i8 r7, .int .i8 r8, .int .i8 r9, .int .i8 r10, .int .i8 r11, .int .i8 r12, .int .i8 r13] 26 (0, 0))) (.cells #[.int .i8 x, .int .i8 y] 23 (0, 0))
    rw [World.size_alloc] at this
    rw [hwb]; exact this
  have g1 := (Below.block hf1 _ (lt_of_heap g0)).trans g0
  have g2 := (Below.block hf1 _ (lt_of_heap g9)).trans g9
  have p0 : w1.cell? ⟨w.heap.size, 0, none⟩ = some (.bool two) := cells_of g1 0
  have p1 : w1.cell? ⟨w.heap.size, 1, none⟩ = some (.int .u8 nn) := cells_of g1 1
  have p2 : w1.cell? ⟨w.heap.size, 2, none⟩ = some (.int .u8 na) := cells_of g1 2
  have p3 : w1.cell? ⟨w.heap.size, 3, none⟩ = some (.int .i8 r0) := cells_of g1 3
  have p4 : w1.cell? ⟨w.heap.size, 4, none⟩ = some (.int .i8 r1) := cells_of g1 4
  have p5 : w1.cell? ⟨w.heap.size, 5, none⟩ = some (.int .i8 r2) := cells_of g1 5
  have p6 : w1.cell? ⟨w.heap.size, 6, none⟩ = some (.int .i8 r3) := cells_of g1 6
  have p7 : w1.cell? ⟨w.heap.size, 7, none⟩ = some (.int .i8 r4) := cells_of g1 7
  have p8 : w1.cell? ⟨w.heap.size, 8, none⟩ = some (.int .i8 r5) := cells_of g1 8
  have p9 : w1.cell? ⟨w.heap.size, 9, none⟩ = some (.int .i8 r6) := cells_of g1 9
  have p10 : w1.cell? ⟨w.heap.size, 10, none⟩ = some (.int .i8 r7) := cells_of g1 10
  have p11 : w1.cell? ⟨w.heap.size, 11, none⟩ = some (.int .i8 r8) := cells_of g1 11
  have p12 : w1.cell? ⟨w.heap.size, 12, none⟩ = some (.int .i8 r9) := cells_of g1 12
  have p13 : w1.cell? ⟨w.heap.size, 13, none⟩ = some (.int .i8 r10) := cells_of g1 13
  have p14 : w1.cell? ⟨w.heap.size, 14, none⟩ = some (.int .i8 r11) := cells_of g1 14
  have p15 : w1.cell? ⟨w.heap.size, 15, none⟩ = some (.int .i8 r12) := cells_of g1 15
  have p16 : w1.cell? ⟨w.heap.size, 16, none⟩ = some (.int .i8 r13) := cells_of g1 16
  have x0 : w1.cell? ⟨w.heap.size + 1, 0, none⟩ = some (.int .i8 x) := cells_of g2 0
  have x1 : w1.cell? ⟨w.heap.size + 1, 1, none⟩ = some (.int .i8 y) := cells_of g2 1
  have hfw := hfb.trans hf1
  have hmk := Make_any two nn na r0 r1 r2 r3 r4 r5 r6 r7 r8 r9 r10 r11 r12 r13 w1 hnn hna hr
  replace hmk := Lib.hid hmk
  clear hkn hwb hf1 hfb g0 g1 g2 g9 hr
  go_wp2_with fail
  refine hmk.out.mono ?_
  rintro e w2 ⟨aN, aA, cN, cA, N, A, rfl, hn, hN, hA, hf2⟩
  have hok := (plan_ok two [r0, r1, r2, r3, r4, r5, r6, r7, r8, r9, r10, r11, r12, r13] (1 + nn % 4).toNat (4 + na % 4).toNat (by omega) (by omega) (by omega)).ok hN hA
  have hNl : N.length ≤ 4 := by have := congrArg List.length hN; rw [List.length_map, symsMk_length] at this; omega
  have hAl : A.length ≤ 3 := by have := congrArg List.length hA; rw [List.length_map, symsMk_length] at this; omega
  have hd1 : 1 ≤ dMk two ∧ dMk two ≤ 2 := by unfold dMk; cases two <;> decide
  have hRl := rowG_length two x y
  have hRf : ∀ z, z ∈ rowG two x y → fitB z = true := fun z hz => by
    unfold fits8 at hx hy
    unfold rowG at hz
    rcases List.mem_cons.1 hz with rfl | hz
    · unfold fitB; exact decide_eq_true (by omega)
    · cases two with
      | false => simp at hz
      | true => simp at hz; subst hz; unfold fitB; exact decide_eq_true (by omega)
  have hRel : ∀ (W : World) (b : Nat), W.cell? ⟨b, 0, none⟩ = some (.int .i64 x) → W.cell? ⟨b, 1, none⟩ = some (.int .i64 y) → El W iv (some ⟨b, 0, none⟩) (rowG two x y) := fun W b h1 h2 => .inr ⟨b, 0, rfl, World.block_lt_of_cell? W _ h1, fun i z hz => by
    unfold rowG at hz
    match i, hz with
    | 0, hz => simp at hz; subst hz; exact h1
    | 1, hz =>
      cases two with
      | false => simp at hz
      | true => simp at hz; subst hz; exact h2
    | i + 2, hz => cases two <;> simp at hz⟩
  obtain ⟨R, hR⟩ : ∃ R, R = rowG two x y := ⟨_, rfl⟩
  rw [← hR] at hRl hRf hRel
  obtain ⟨d, hd⟩ : ∃ d, d = dMk two := ⟨_, rfl⟩
  rw [← hd] at hok hd1 hRl
  obtain ⟨nb, no, s0, rfl, hnb, hs0, -, hs2, -⟩ := hn.noms.at hok.n1
  have hs0l := hok.row s0 (List.mem_append_left _ (List.mem_of_getElem? hs0))
  rw [hs0l, Nat.zero_mul, Nat.add_zero] at hs2
  have hall := fun W mst ra rc (h1 : Fr w2 W) h2 h3 => GAll (cN := cN) (cA := cA) hn hok hNl hAl hd1 hRl hRf W mst ra rc h1 h2 h3
  have hrd := fun m hm W x (h1 : Fr w2 W) h2 h3 => GRead (cN := cN) (cA := cA) hn hok hAl hd1 hRl hRf m hm W x h1 h2 h3
  have hNr : (N.map Sy.row).length ≤ 4 := by rw [List.length_map]; exact hNl
  have hAr : (A.map Sy.row).length ≤ 3 := by rw [List.length_map]; exact hAl
  have hn1 : (0 : Int) < N.length := by have := hok.n1; omega
  have hn1n : 0 < N.length := hok.n1
  have hd2 : (0 : Int) ≤ d ∧ (d : Int) ≤ 2 := by omega
  have hd3 := hd2.1
  have hd4 := hd2.2
  generalize N.map Sy.row = Nr at *
  generalize A.map Sy.row = Ar at *
  generalize N.length = nN at *
  generalize A.length = nA at *
  have hfb : Fr w2 (w2.alloc (.cells #[.slice (some ⟨nb, no, none⟩) nN cN, .slice aA nA cA] 30)) := (Fr.refl w2).alloc _
  have n1 := (new2a w2 (.slice (some ⟨nb, no, none⟩) nN cN) (.slice aA nA cA) 30).1
  have n2 := (new2b w2 (.slice (some ⟨nb, no, none⟩) nN cN) (.slice aA nA cA) 30).1
  have z0 := hfb.keep (hf2.keep x0)
  have z1 := hfb.keep (hf2.keep x1)
  have z2 := hfb.keep hs2
  have z3 := World.block_lt_of_cell? _ _ n1
  have hfx := hfw.trans hf2
  replace hall := Lib.hid hall
  replace hrd := Lib.hid hrd
  replace hfx := Lib.hid hfx
  replace hRel := Lib.hid hRel
  clear hn hN hA hok hNl hAl hs0 hs0l hnb hmk hf2 hfw x0 x1 hs2 hRf p0 p1 p2 p3 p4 p5 p6 p7 p8 p9 p10 p11 p12 p13 p14 p15 p16 hd hR hnn hna
  have e8x : fits8 x := hx
  have e8y : fits8 y := hy
  unfold fits8 at e8x e8y
  have hwx : IntKind.i64.wrap x = x := by rw [IntKind.wrap_i64]; omega
  have hwy : IntKind.i64.wrap y = y := by rw [IntKind.wrap_i64]; omega
  go_wp2_with fail
  have heq := fun (W : World) (a : Option Addr) (ca : Nat) (b : Nat) (h1 : El W iv a R) (h2 : El W iv (some ⟨b, 0, none⟩) R) => Equal_row R R a (some ⟨b, 0, none⟩) ca 2 W h1 h2 (by omega) (by omega)
  rw [decide_eq_true (rfl : R = R), hRl] at heq
  replace heq := Lib.hid heq
  go_region_held3 (fun w' => w'.cell? ⟨w.heap.size + 1, 0, none⟩ = some (.int .i8 x) ∧ w'.cell? ⟨w.heap.size + 1, 1, none⟩ = some (.int .i8 y) ∧ w'.cell? ⟨w2.heap.size, 0, none⟩ = some (.slice (some ⟨nb, no, none⟩) nN cN) ∧ w'.cell? ⟨nb, no + 1, none⟩ = some (.slice s0.ra d s0.rc))
    (first | go_keep | (go_split_ands; refine ⟨?_, ?_, ?_, ?_⟩ <;> (refine Fr.keep (by assumption) ?_; assumption)))
    (fail)
  all_goals
    obtain ⟨W3, hW3⟩ : ∃ W3, W3 = ((w2.alloc (.cells #[.slice (some ⟨nb, no, none⟩) nN cN, .slice aA nA cA] 30)).alloc (.cells #[.int .i64 x, .int .i64 y] 3)).drew := ⟨_, rfl⟩
    have hf23 : Fr w2 W3 := by rw [hW3]; exact (hfb.alloc _).drew
    have hfb3 : Fr (w2.alloc (.cells #[.slice (some ⟨nb, no, none⟩) nN cN, .slice aA nA cA] 30)) W3 := by rw [hW3]; exact ((Fr.refl _).alloc _).drew
    have hxy : W3.heap[w2.heap.size + 1]? = some (.cells #[.int .i64 x, .int .i64 y] 3 (0, 0)) := by
      have := heap_alloc_new (w2.alloc (.cells #[.slice (some ⟨nb, no, none⟩) nN cN, .slice aA nA cA] 30)) (.cells #[.int .i64 x, .int .i64 y] 3 (0, 0))
      rw [World.size_alloc] at this
      rw [hW3]; exact this
    have hrow3 : El W3 iv (some ⟨w2.heap.size + 1, 0, none⟩) R := hRel.out W3 _ (by rw [cells_of hxy]; rfl) (by rw [cells_of hxy]; rfl)
    have m1 := hfb3.keep n1
    have m2 := hfb3.keep n2
    first | rw [← hW3] | (rw [hwx, hwy, ← hW3])
    clear hW3 hxy hwx hwy hfb3 hfb n1 n2 z0 z1 z2 z3
    obtain ⟨k, hk⟩ : ∃ k : Nat, most % 3 = (k : Int) := ⟨(most % 3).toNat, by omega⟩
    have hk2 : k ≤ 2 := by omega
    have hk3 : (0 : Int) ≤ (k : Int) := by omega
    have hk4 : (k : Int) ≤ 2 := by omega
    have hfk : Fr W3 (W3.alloc (.cells #[.int .i64 k] 3)) := (Fr.refl W3).alloc _
    replace m1 := hfk.keep m1
    replace m2 := hfk.keep m2
    have kc : (W3.alloc (.cells #[.int .i64 k] 3)).cell? ⟨W3.heap.size, 0, none⟩ = some (.int .i64 k) := cells_of (heap_alloc_new W3 _) 0
    have hrow4 := hrow3.fr hfk
    have h4 := Lib.hid (hall.out _ (k : Int) _ 2 (hf23.trans hfk) ⟨hk3, by omega⟩ hrow4)
    go_wp2_with fail
    refine h4.out.mono ?_
    rintro e w5 ⟨a5, c5, xs, rfl, hown5, hxs, hf5⟩
    replace m1 := hf5.keep m1
    replace m2 := hf5.keep m2
    replace kc := hf5.keep kc
    have hf35 := hfk.trans hf5
    have h5 := Lib.hid (hall.out w5 ((k : Int) + 1) _ 2 (hf23.trans hf35) ⟨by omega, by omega⟩ (hrow4.fr hf5))
    clear h4 hf5 hfk hrow4
    go_wp2_with fail
    refine h5.out.mono ?_
    rintro e w6 ⟨a6, c6, ys, rfl, hown6, hys, hf6⟩
    have hxs2 : xs.map stripX = allR Nr Ar R k := by rw [hxs]; rfl
    have hys2 : ys.map stripX = allR Nr Ar R (k + 1) := by rw [hys]; rfl
    have hdel := Lib.hid (GDel hNr hAr (k + 1) k (by omega) (by omega) w5 w6 a6 c6 w5.heap.size W3.heap.size ys hys2 hown6 hf6 (Nat.le_refl _) kc)
    have hbx5 := Lib.hid hown5.bxs
    clear h5 hown5 hown6 hxs hys
    go_wp2_with fail
    refine hdel.out.mono ?_
    rintro e w7 ⟨c7, zs, rfl, hzs, hbz, hf7⟩
    have hsame : zs.map stripX = xs.map stripX := by rw [hzs, hxs2]; exact allR_grows ..
    have hmem : ∀ q, q ∈ xs → stripX q ∈ allR Nr Ar R k := fun q hq => by rw [← hxs2]; exact List.mem_map_of_mem hq
    have hsz : xs.length ≤ 1000000 ∧ zs.length ≤ 1000000 := by
      have h1 := allR_size Nr Ar R k
      rw [← hxs2, List.length_map] at h1
      have h2 : (2 * k + 1) ^ Ar.length ≤ 9 ^ 3 := Nat.le_trans (Nat.pow_le_pow_left (by omega) _) (Nat.pow_le_pow_right (by decide) hAr)
      have h3 := Nat.mul_le_mul hNr h2
      have h4 : (9 : Nat) ^ 3 = 729 := by decide
      have h5 := congrArg List.length hsame
      rw [List.length_map, List.length_map] at h5
      omega
    have hcx : ∀ q, q ∈ xs → q.cs.length ≤ 1000000 := fun q hq => by
      have h2 : q.cs.length = Ar.length := (allR_mem (hmem q hq)).2.1
      omega
    have hcz : ∀ q, q ∈ zs → q.cs.length ≤ 1000000 := fun q hq => by
      have h1 : stripX q ∈ xs.map stripX := by rw [← hsame]; exact List.mem_map_of_mem hq
      rw [hxs2] at h1
      have h2 : q.cs.length = Ar.length := (allR_mem h1).2.1
      omega
    have hf57 : Fr W3 w7 := hf35.trans hf7
    have hsm := fun W (hW : Fr w7 W) => same_any xs zs a5 a6 c5 c7 W (hbx5.out.fr (hf7.trans hW)) (hbz.fr hW) (by omega) (by omega) hcx hcz
    rw [decide_eq_true hsame.symm] at hsm
    replace m1 := hf7.keep m1
    replace m2 := hf7.keep m2
    replace hsm := Lib.hid hsm
    have hbx7 := Lib.hid (hbx5.out.fr hf7)
    have hrow7 := Lib.hid (hrow3.fr hf57)
    have hrdk := Lib.hid (fun W (q : BX) (hW : Fr w7 W) (hq : q ∈ xs) he => hrd.out k (by omega) W q ((hf23.trans hf57).trans hW) (hmem q hq) he)
    have hfin := Lib.hid ((hfx.out.trans hf23).trans hf57)
    clear hdel hbx5 hxs2 hys2 hzs hbz hsame hmem hcx hcz hf7 hf57 hf6 hf35 hf23 hrow3 kc hrd hall hRel hfx
    obtain ⟨n, hn⟩ : ∃ n, n = xs.length := ⟨_, rfl⟩
    obtain ⟨hsz1, -⟩ := hsz
    rw [← hn] at hsm hsz1
    rw [← hn]
    replace hn := Lib.hid hn
    replace m1 := Lib.hid m1
    replace m2 := Lib.hid m2
    go_wp2_with fail
    go_loopg [65] n (fun gk s65 wr => ∃ j : Nat, s65 = .int .i64 j ∧ j + gk = n ∧ Fr w7 wr)
    case atStart => exact ⟨0, rfl, by omega, Fr.refl _⟩
    case round =>
      obtain ⟨j, rfl, hjk, hf⟩ := hrel
      by_cases hj : j < n
      · have hdJ : decide (j < n) = true := decide_eq_true hj
        obtain ⟨xb, xo, q, rfl, hxb, hxj, x1, x2, xe⟩ := (hbx7.out.fr hf).at (i := j) (by rw [← hn.out]; exact hj)
        have hbox := (Fr.refl wr).alloc (.cells #[.int .i64 q.i, .slice (some ⟨q.g, 0, none⟩) q.cs.length q.c] 42)
        have hcall := Lib.hid (hrdk.out _ q (hf.trans hbox) (List.mem_of_getElem? hxj) (xe.fr hbox))
        have v1 := (hf.trans hbox).keep m1.out
        have v2 := (hf.trans hbox).keep m2.out
        have v3 := (new2a wr (.int .i64 q.i) (.slice (some ⟨q.g, 0, none⟩) q.cs.length q.c) 42).1
        have v4 := (new2b wr (.int .i64 q.i) (.slice (some ⟨q.g, 0, none⟩) q.cs.length q.c) 42).1
        generalize q.cs.length = xl at *
        generalize q.g = xg at *
        generalize q.c = xc at *
        generalize q.i = xi at *
        replace hbox := Lib.hid hbox
        clear hxj xe
        have z1 : (j : Int) < (n : Int) := by omega
        have z0 : (0 : Int) ≤ (j : Int) := by omega
        go_wp2_with fail
        refine hcall.out.mono ?_
        rintro e w9 ⟨gr, cr, rfl, her, hf9⟩
        have hf79 := (hf.trans hbox.out).trans hf9
        have hq := Lib.hid (heq.out w9 _ cr _ her (hrow7.out.fr hf79))
        clear her hf9 v1 v2 v3 v4 hcall hbox
        go_wp2_with fail
        refine hq.out.mono ?_
        rintro e w10 ⟨rfl, hf10⟩
        have hf710 := hf79.trans hf10
        clear hf10 hf79 hq
        go_wp2_with fail
        go_roundg (gk - 1)
        case measure => omega
        case rel => exact ⟨j + 1, by go_num, by omega, hf710⟩
      · obtain rfl : j = n := by omega
        have hdJ : decide (j < j) = false := decide_eq_false (by omega)
        have hs := Lib.hid (hsm.out wr hf)
        go_wp2_with fail
        refine hs.out.mono ?_
        rintro e w10 ⟨rfl, hf10⟩
        go_wp2_with fail
        go_ret
        exact ⟨rfl, (hfin.out.trans hf).trans hf10⟩
end Go.Proofs.YtphjfalibnnohaaGreatDoor
