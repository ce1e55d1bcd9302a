/-
  Contracts and laws for the statements of the law 43 of the seat, QJ.
-/
import Derived.Test.YtphjfalibnnohaaGreatDoorQI
import Derived.Test.YtphjfalibnnohaaGreatDoorQH

/- The notation of a plan; equal at a spelling that came in; the closures of the laws. -/
namespace Go.Proofs.YtphjfalibnnohaaGreatDoor
open Go.RowKit Go.Lib
attribute [local go_sem ↓] Go.wp_at_zero Go.wp_at_succ

/-- the notation of a plan is right and small -/
structure PlanOk (d : Nat) (N A : List Sy) : Prop where
  ok : NotOk d N A
  n4 : N.length ≤ 4
  n1 : 1 ≤ N.length
  a3 : A.length ≤ 3
  d1 : 1 ≤ d
  d2 : d ≤ 2
def PlanRet (w : World) (e : Ending) (w' : World) : Prop := ∃ aN aA cN cA N A d, e = .returned (.agg #[.slice aN N.length cN, .slice aA A.length cA]) ∧ NotIs w' aN aA cA N A ∧ PlanOk d N A ∧ Fr w w'
theorem Plan_any (two : Bool) (nn na r0 r1 r2 r3 r4 r5 r6 r7 r8 r9 r10 r11 r12 r13 : Int) (w : World) (hnn : 0 ≤ nn ∧ nn ≤ 255) (hna : 0 ≤ na ∧ na ≤ 255) (hr : ∀ x, x ∈ [r0, r1, r2, r3, r4, r5, r6, r7, r8, r9, r10, r11, r12, r13] → fits8 x) :
    Calls Tryz.prog 8 #[.agg #[.bool two, .int .u8 nn, .int .u8 na, .int .i8 r0, .int .i8 r1, .int .i8 r2, .int .i8 r3, .int .i8 r4, .int .i8 r5, .int .i8 r6, .int .i8 r7, .int .i8 r8, .int .i8 r9, .int .i8 r10, .int .i8 r11, .int .i8 r12, .int .i8 r13]] w (PlanRet w) := by
  refine (Make_any two nn na r0 r1 r2 r3 r4 r5 r6 r7 r8 r9 r10 r11 r12 r13 w hnn hna hr).mono ?_
  rintro e w2 ⟨aN, aA, cN, cA, N, A, rfl, hn, hN, hA, hf2⟩
  have hok := (plan_ok two [r0, r1, r2, r3, r4, r5, r6, r7, r8, r9, r10, r11, r12, r13] (1 + nn % 4).toNat (4 + na % 4).toNat (by omega) (by omega) (by omega)).ok hN hA
  have hNl : N.length ≤ 4 := by have := congrArg List.length hN; rw [List.length_map, symsMk_length] at this; omega
  have hAl : A.length ≤ 3 := by have := congrArg List.length hA; rw [List.length_map, symsMk_length] at this; omega
  have hd1 : 1 ≤ dMk two ∧ dMk two ≤ 2 := by unfold dMk; cases two <;> decide
  exact ⟨aN, aA, cN, cA, N, A, dMk two, rfl, hn, ⟨hok, hNl, hok.n1, hAl, hd1.1, hd1.2⟩, hf2⟩

set_option maxRecDepth 100000 in
set_option maxHeartbeats 1000000 in
theorem equalE_any (x : BX) (i : Nat) (cs : List Int) (ca : Option Addr) (cc : Nat) (W : World) (hx : El W iv (some ⟨x.g, 0, none⟩) x.cs) (hy : El W iv ca cs) (hl : x.cs.length ≤ 1000000) (hl2 : cs.length ≤ 1000000) :
    Calls Tryz.prog 24 #[.agg #[.int .i64 x.i, .slice (some ⟨x.g, 0, none⟩) x.cs.length x.c], .agg #[.int .i64 i, .slice ca cs.length cc]] W fun e W' => e = .returned (.bool (decide (stripX x = (i, cs)))) ∧ Fr W W' := by
  have heq := fun W' (hW' : Fr W W') => Equal_row x.cs cs (some ⟨x.g, 0, none⟩) ca x.c cc W' (hx.fr hW') (hy.fr hW') (by omega) (by omega)
  have hfA : Fr W ((W.alloc (.cells #[.int .i64 x.i, .slice (some ⟨x.g, 0, none⟩) x.cs.length x.c] 42)).alloc (.cells #[.int .i64 i, .slice ca cs.length cc] 42)) := ((Fr.refl W).alloc _).alloc _
  have hst : decide (stripX x = (i, cs)) = (decide (x.i = i) && decide (x.cs = cs)) := by
    unfold stripX
    by_cases h1 : x.i = i <;> by_cases h2 : x.cs = cs <;> simp [h1, h2]
  rw [hst]
  replace heq := Lib.hid (heq _ hfA)
  replace hfA := Lib.hid hfA
  generalize decide (x.cs = cs) = q at *
  generalize x.cs.length = xl at *
  generalize cs.length = yl at *
  generalize x.g = xg at *
  generalize x.c = xc at *
  clear hx hy hst
  by_cases h1 : x.i = i
  · have hd : decide (x.i = i) = true := decide_eq_true h1
    have hd2 : ((x.i : Int) == (i : Int)) = true := by rw [h1]; simp
    rw [hd]
    generalize x.i = j at *
    clear h1 hd
    go_enter Tryz.func24, Tryz.ntmps24
    go_wp2_with fail
    refine heq.out.mono ?_
    rintro e w2 ⟨rfl, hf2⟩
    go_wp2_with fail
    go_ret
    exact ⟨rfl, hfA.out.trans hf2⟩
  · have hd : decide (x.i = i) = false := decide_eq_false h1
    have hd2 : ((x.i : Int) == (i : Int)) = false := beq_false_of_ne (by omega)
    rw [hd]
    generalize x.i = j at *
    clear h1 hd
    go_enter Tryz.func24, Tryz.ntmps24
    go_wp2_with fail
    go_ret
    exact ⟨rfl, hfA.out⟩
set_option maxRecDepth 100000 in
set_option maxHeartbeats 1000000 in
theorem Enh23_any (x : BX) (i : Nat) (cs : List Int) (ca : Option Addr) (cc p : Nat) (W : World) (hc0 : W.cell? ⟨p, 0, none⟩ = some (.int .i64 i)) (hc1 : W.cell? ⟨p, 1, none⟩ = some (.slice ca cs.length cc)) (hx : El W iv (some ⟨x.g, 0, none⟩) x.cs) (hy : El W iv ca cs) (hl : x.cs.length ≤ 1000000) (hl2 : cs.length ≤ 1000000) :
    Calls Tryz.prog 23 #[.agg #[.int .i64 x.i, .slice (some ⟨x.g, 0, none⟩) x.cs.length x.c], .pointer (some ⟨p, 0, none⟩)] W fun e W' => e = .returned (.bool (decide (stripX x = (i, cs)))) ∧ Fr W W' := by
  have hfA : Fr W (W.alloc (.cells #[.int .i64 x.i, .slice (some ⟨x.g, 0, none⟩) x.cs.length x.c] 42)) := (Fr.refl W).alloc _
  have heq := equalE_any x i cs ca cc _ (hx.fr hfA) (hy.fr hfA) hl hl2
  replace hc0 := hfA.keep hc0
  replace hc1 := hfA.keep hc1
  replace hfA := Lib.hid hfA
  replace heq := Lib.hid heq
  generalize x.cs.length = xl at *
  generalize cs.length = yl at *
  generalize decide (stripX x = (i, cs)) = q at *
  generalize x.g = xg at *
  generalize x.c = xc at *
  generalize x.i = j at *
  clear hx hy
  go_enter Tryz.func23, Tryz.ntmps23
  go_wp2_with fail
  refine heq.out.mono ?_
  rintro e w2 ⟨rfl, hf2⟩
  go_wp2_with fail
  go_ret
  exact ⟨rfl, hfA.out.trans hf2⟩
theorem enters_enh1 : ∀ args w, (callFunc 23 args).run Tryz.prog w = .ok (.enter 23 args) w := enters_of Tryz.func23 (by kernel_rfl) rfl
theorem small_le {n a : Nat} {most : Int} (h : smallB n a most = true) (hb : boundE n a most = 0) : most ≤ 10 := by
  unfold smallB at h
  by_cases h1 : 10 < most
  · rw [if_pos h1, hb] at h; simp at h
  · omega
theorem bound_nn {n a : Nat} {most : Int} (hb : boundE n a most = 0) : 0 ≤ most := by
  unfold boundE at hb
  by_cases h1 : most < 0
  · rw [if_pos h1] at hb; omega
  · omega
end Go.Proofs.YtphjfalibnnohaaGreatDoor

/- spelling.Simplest, Complexity, Same. -/
namespace Go.Proofs.YtphjfalibnnohaaGreatDoor
open Go.RowKit Go.Lib
attribute [local go_sem ↓] Go.wp_at_zero Go.wp_at_succ

def SimpRet (w : World) (L : List (Nat × List Int)) (err : Int) (e : Ending) (w' : World) : Prop :=
  (err ≠ 0 → e = .returned (.tuple #[.agg #[.int .i64 0, .slice none 0 0], .bool false, .int .i64 err])) ∧ (err = 0 → L = [] → e = .returned (.tuple #[.agg #[.int .i64 0, .slice none 0 0], .bool false, .int .i64 0])) ∧
  (err = 0 → ∀ s R, L = s :: R → ∃ g c, e = .returned (.tuple #[.agg #[.int .i64 s.1, .slice (some ⟨g, 0, none⟩) s.2.length c], .bool true, .int .i64 0]) ∧ El w' iv (some ⟨g, 0, none⟩) s.2) ∧ Fr w w'

set_option maxRecDepth 100000 in
set_option maxHeartbeats 1000000 in
theorem Simplest_any (d : Nat) (aN aA : Option Addr) (cN cA : Nat) (N A : List Sy) (R : List Int) (ra : Option Addr) (rc : Nat) (most : Int) (w : World) (hn : NotIs w aN aA cA N A) (hok : NotOk d N A) (hd : 1 ≤ d) (hR : El w iv ra R) (hRl : R.length ≤ 1000000) (hm : boundE N.length A.length most = 0 → most ≤ 20000) :
    Calls Tryz.prog 25 #[.agg #[.slice aN N.length cN, .slice aA A.length cA], .slice ra R.length rc, .int .i64 most] w (SimpRet w (allL N A R most.toNat) (allE9 d N.length A.length R most)) := by
  have hal := fun W (hW : Fr w W) => All_any d aN aA cN cA N A R ra rc most W (hn.fr hW) hok hd (hR.fr hW) hRl hm
  obtain ⟨err, herr⟩ : ∃ err, err = allE9 d N.length A.length R most := ⟨_, rfl⟩
  obtain ⟨L, hL⟩ : ∃ L, L = allL N A R most.toNat := ⟨_, rfl⟩
  rw [← herr, ← hL] at hal
  rw [← herr, ← hL]
  generalize N.length = nN at *
  generalize A.length = nA at *
  generalize R.length = nR at *
  clear herr hL hn hok hR hm
  obtain ⟨wb, hwb⟩ : ∃ wb, wb = alls w [(.cells #[.slice aN nN cN, .slice aA nA cA] 30), (.cells #[.int .i64 0, .slice none 0 0] 42)] := ⟨_, rfl⟩
  have hfb : Fr w wb := by rw [hwb]; exact alls_fr _ w
  have g0 : wb.heap[w.heap.size]? = some (.cells #[.slice aN nN cN, .slice aA nA cA] 30 (0, 0)) := by rw [hwb]; exact alls_get _ w 0 _ rfl
  have g1 : wb.heap[w.heap.size + 1]? = some (.cells #[.int .i64 0, .slice none 0 0] 42 (0, 0)) := by rw [hwb]; exact alls_get _ w 1 _ rfl
  have hsb := Lib.hid (show wb.heap.size = w.heap.size + 1 + 1 by rw [hwb]; simp [alls])
  have b0 : wb.cell? ⟨w.heap.size, 0, none⟩ = some (.slice aN nN cN) := cells_of g0 0
  have b1 : wb.cell? ⟨w.heap.size, 1, none⟩ = some (.slice aA nA cA) := cells_of g0 1
  have q4 : wb.cell? ⟨w.heap.size + 1, 0, none⟩ = some (.int .i64 0) := cells_of g1 0
  have q5 : wb.cell? ⟨w.heap.size + 1, 1, none⟩ = some (.slice none 0 0) := cells_of g1 1
  have q6 : wb.frozen? ⟨w.heap.size + 1, 0, none⟩ = false := by unfold World.frozen?; rw [g1]; rfl
  have q7 : wb.frozen? ⟨w.heap.size + 1, 1, none⟩ = false := by unfold World.frozen?; rw [g1]; rfl
  clear g0 g1
  replace hal := Lib.hid (hal wb hfb)
  by_cases he : err = 0
  · have d1 : (err != 0) = false := by rw [he]; rfl
    replace he := Lib.hid he
    go_enter Tryz.func25, Tryz.ntmps25
    go_upto_region 1 with (fail)
    change Code.wp _ _ _ _ (alls w [(.cells #[.slice aN nN cN, .slice aA nA cA] 30), (.cells #[.int .i64 0, .slice none 0 0] 42)])
    rw [← hwb]
    clear hwb
    go_wp2_with fail
    refine hal.out.mono ?_
    rintro e w2 ⟨h1, -, hf2⟩
    obtain ⟨a, c, xs, rfl, hown, hxs⟩ := h1 he.out
    replace q6 := hf2.keepf q4 q6
    replace q7 := hf2.keepf q5 q7
    replace q4 := hf2.keep q4
    replace q5 := hf2.keep q5
    clear h1 b0 b1
    cases xs with
    | nil =>
      have hLn : L = [] := by rw [← hxs]; rfl
      have qs := two_store w2 (w.heap.size + 1) (.int .i64 0) (.slice none 0 0) _ _ q4 q5
      have q8 := qs.2.2.1
      have u0 := Lib.hid qs.1
      have u1 := Lib.hid qs.2.1
      have hfx := Lib.hid qs.2.2.2
      have hl0 : ([] : List BX).length = 0 := rfl
      rw [hl0]
      clear qs
      replace hxs := Lib.hid hxs
      replace hLn := Lib.hid hLn
      replace hown := Lib.hid hown
      go_wp2_with fail
      have v0 := u0.out
      have v1 := u1.out
      refine bodyPost_ret (v := .tuple #[.agg #[.int .i64 0, .slice none 0 0], .bool false, .int .i64 0]) (by simp [results, Tryz.results25, go_sem, v0, v1]) rfl ⟨fun h => absurd he.out h, fun _ _ => rfl, fun _ s R e => ?_, ?_⟩
      · rw [hLn.out] at e; cases e
      · exact ((Fx.of_fr (p := fun q => q = w.heap.size + 1) (hfb.trans hf2)).trans hfx.out).toFr (fun q hq e => by have e : q = w.heap.size + 1 := e; omega)
    | cons x xs =>
      obtain ⟨g, cap, hv⟩ := ownsRow_pos hown.own (by simp)
      injection hv with hv1 hv2 hv3
      subst hv1
      have hbx := hown.bxs
      obtain ⟨b', o', y, e1, -, e2, c0, c1, hel⟩ := hbx.at (i := 0) (by simp)
      injection e1 with e1; injection e1 with e1 e1'
      subst e1; subst e1'
      injection e2 with e2; subst e2
      simp only [Nat.zero_mul, Nat.zero_add, Nat.add_zero] at c0 c1
      have hgne : g ≠ w.heap.size + 1 := by
        have := ownsRow_own_ge hown.own g rfl
        rw [hsb.out] at this; omega
      have hxne := (hown.el x (by simp)).1
      rw [hsb.out] at hxne
      have qs := two_store w2 (w.heap.size + 1) (.int .i64 x.i) (.slice (some ⟨x.g, 0, none⟩) x.cs.length x.c) _ _ q4 q5
      have q8 := qs.2.2.1
      have u0 := Lib.hid qs.1
      have u1 := Lib.hid qs.2.1
      have hfx := Lib.hid qs.2.2.2
      clear qs hv2 hv3 hbx
      replace hxs := Lib.hid hxs
      replace hown := Lib.hid hown
      have hl0 : (0 : Int) < ((x :: xs).length : Int) := by simp
      have hl1 : 0 < (x :: xs).length := by simp
      have hl2 : (((x :: xs).length : Int) == 0) = false := by rw [beq_eq_false_iff_ne]; omega
      generalize hnl : (x :: xs).length = nl at *
      replace hnl := Lib.hid hnl
      have hel2 := Lib.hid hel
      obtain ⟨xi, hxi⟩ : ∃ xi, xi = x.i := ⟨_, rfl⟩
      obtain ⟨xl, hxl⟩ : ∃ xl, xl = x.cs.length := ⟨_, rfl⟩
      obtain ⟨xg, hxg⟩ : ∃ xg, xg = x.g := ⟨_, rfl⟩
      obtain ⟨xc, hxc⟩ : ∃ xc, xc = x.c := ⟨_, rfl⟩
      rw [← hxi] at c0 u0 q8
      rw [← hxl, ← hxg, ← hxc] at c1 u1
      rw [← hxi, ← hxl, ← hxg, ← hxc] at hfx
      rw [← hxi] at u1
      rw [← hxl, ← hxg, ← hxc] at u0
      replace hxi := Lib.hid hxi
      replace hxl := Lib.hid hxl
      replace hxg := Lib.hid hxg
      replace hxc := Lib.hid hxc
      clear hel
      go_wp2_with fail
      have v0 := u0.out
      have v1 := u1.out
      refine bodyPost_ret (v := .tuple #[.agg #[.int .i64 xi, .slice (some ⟨xg, 0, none⟩) xl xc], .bool true, .int .i64 0]) (by simp [results, Tryz.results25, go_sem, v0, v1]) rfl ⟨fun h => absurd he.out h, fun _ e => ?_, fun _ s R e => ?_, ?_⟩
      · rw [← hxs.out] at e; cases e
      · rw [← hxs.out] at e
        injection e with e e'
        subst e
        refine ⟨x.g, x.c, by rw [hxi.out, hxl.out, hxg.out, hxc.out]; rfl, hel2.out.fx hfx.out (fun e => ?_)⟩
        have e : x.g = w.heap.size + 1 := e
        omega
      · exact ((Fx.of_fr (p := fun q => q = w.heap.size + 1) (hfb.trans hf2)).trans hfx.out).toFr (fun q hq e => by have e : q = w.heap.size + 1 := e; omega)
  · have d1 : (err != 0) = true := bne_iff_ne.2 he
    have qs0 : True := trivial
    replace he := Lib.hid he
    go_enter Tryz.func25, Tryz.ntmps25
    go_upto_region 1 with (fail)
    change Code.wp _ _ _ _ (alls w [(.cells #[.slice aN nN cN, .slice aA nA cA] 30), (.cells #[.int .i64 0, .slice none 0 0] 42)])
    rw [← hwb]
    clear hwb
    go_wp2_with fail
    refine hal.out.mono ?_
    rintro e w2 ⟨-, h1, hf2⟩
    obtain rfl := h1 he.out
    replace q6 := hf2.keepf q4 q6
    replace q7 := hf2.keepf q5 q7
    replace q4 := hf2.keep q4
    replace q5 := hf2.keep q5
    have qs := two_store w2 (w.heap.size + 1) (.int .i64 0) (.slice none 0 0) _ _ q4 q5
    have q8 := qs.2.2.1
    have u0 := Lib.hid qs.1
    have u1 := Lib.hid qs.2.1
    have hfx := Lib.hid qs.2.2.2
    clear qs
    go_wp2_with fail
    have v0 := u0.out
    have v1 := u1.out
    refine bodyPost_ret (v := .tuple #[.agg #[.int .i64 0, .slice none 0 0], .bool false, .int .i64 err]) (by simp [results, Tryz.results25, go_sem, v0, v1]) rfl ⟨fun _ => rfl, fun h => absurd h he.out, fun h => absurd h he.out, ?_⟩
    exact ((Fx.of_fr (p := fun q => q = w.heap.size + 1) (hfb.trans hf2)).trans hfx.out).toFr (fun q hq e => by have e : q = w.heap.size + 1 := e; omega)
theorem rowE_inv {cs : List Int} (h : rowE cs = 0) : cs.length ≤ 64 ∧ ∀ x, x ∈ cs → fitB x = true := by
  unfold rowE at h
  split at h
  · omega
  · split at h
    · omega
    · rename_i h1 h2
      refine ⟨by omega, fun x hx => ?_⟩
      cases hb : fitB x with
      | true => rfl
      | false => exact absurd (List.any_eq_true.2 ⟨x, hx, by rw [hb]; rfl⟩) h2
def CxRet (w : World) (cs : List Int) (e : Ending) (w' : World) : Prop :=
  (rowE cs = 0 → e = .returned (.tuple #[.string (tx (cx cs)), .int .i64 0])) ∧ (rowE cs ≠ 0 → e = .returned (.tuple #[.string ⟨#[]⟩, .int .i64 (rowE cs)])) ∧ Fr w w'
set_option maxRecDepth 100000 in
set_option maxHeartbeats 1000000 in
theorem Complexity_any (i : Int) (cs : List Int) (ca : Option Addr) (cc : Nat) (w : World) (hG : G w) (hcs : El w iv ca cs) (hl : cs.length ≤ 1000000000) :
    Calls Tryz.prog 28 #[.agg #[.int .i64 i, .slice ca cs.length cc]] w (CxRet w cs) := by
  have hfA : Fr w (w.alloc (.cells #[.int .i64 i, .slice ca cs.length cc] 42)) := (Fr.refl w).alloc _
  have n0 := new2a w (.int .i64 i) (.slice ca cs.length cc) 42
  have n1 := new2b w (.int .i64 i) (.slice ca cs.length cc) 42
  have hck := Check_row cs ca cc _ (hcs.fr hfA) hl
  by_cases hr : rowE cs = 0
  · obtain ⟨h64, hft⟩ := rowE_inv hr
    have hcx := cx_bound hft
    have hcmp := fun W (hW : Fr w W) => complexity_any i cs ca cc W (hcs.fr hW) h64 hft
    have hof := fun W (hW : Fr w W) => Of_any (cx cs) (by omega) (by omega) W (hG.fr hW)
    have hfin : ∀ W, Fr w W → CxRet w cs (.returned (.tuple #[.string (tx (cx cs)), .int .i64 0])) W := fun W hW => ⟨fun _ => rfl, fun h => absurd hr h, hW⟩
    rw [hr] at hck
    replace hcmp := Lib.hid hcmp
    replace hof := Lib.hid hof
    replace hck := Lib.hid hck
    replace hfin := Lib.hid hfin
    replace hfA := Lib.hid hfA
    generalize cx cs = z at *
    generalize hgc : CxRet w cs = Post at *
    generalize cs.length = nc at *
    clear hcs hft hcx hgc hr
    replace n0 := n0.1
    replace n1 := n1.1
    obtain ⟨wb, hwb⟩ : ∃ wb, wb = w.alloc (.cells #[.int .i64 i, .slice ca nc cc] 42) := ⟨_, rfl⟩
    rw [← hwb] at n0 n1 hfA hck
    go_enter Tryz.func28, Tryz.ntmps28
    go_upto_region 1 with (fail)
    rw [← hwb]
    clear hwb
    go_wp2_with fail
    refine hck.out.mono ?_
    rintro e w2 ⟨rfl, hf2⟩
    replace n0 := hf2.keep n0
    replace n1 := hf2.keep n1
    have hfw := hfA.out.trans hf2
    go_wp2_with fail
    refine (hcmp.out _ hfw).mono ?_
    rintro e w3 ⟨rfl, hf3⟩
    have hfw3 := hfw.trans hf3.fr
    clear hf3
    go_wp2_with fail
    refine (hof.out _ hfw3).mono ?_
    rintro e w4 ⟨rfl, hf4⟩
    go_wp2_with fail
    exact hfin.out _ (hfw3.trans hf4)
  · obtain ⟨er, her⟩ : ∃ er, er = rowE cs := ⟨_, rfl⟩
    have d1 : (er != 0) = true := bne_iff_ne.2 (by rw [her]; exact hr)
    rw [← her] at hck
    have hfin : ∀ W, Fr w W → CxRet w cs (.returned (.tuple #[.string ⟨#[]⟩, .int .i64 er])) W := fun W hW => ⟨fun h => absurd h hr, fun _ => by rw [her], hW⟩
    replace hck := Lib.hid hck
    replace hfin := Lib.hid hfin
    replace hfA := Lib.hid hfA
    generalize hgc : CxRet w cs = Post at *
    generalize cs.length = nc at *
    clear hcs hgc hr her
    replace n0 := n0.1
    replace n1 := n1.1
    obtain ⟨wb, hwb⟩ : ∃ wb, wb = w.alloc (.cells #[.int .i64 i, .slice ca nc cc] 42) := ⟨_, rfl⟩
    rw [← hwb] at n0 n1 hfA hck
    go_enter Tryz.func28, Tryz.ntmps28
    go_upto_region 1 with (fail)
    rw [← hwb]
    clear hwb
    go_wp2_with fail
    refine hck.out.mono ?_
    rintro e w2 ⟨rfl, hf2⟩
    have hfw := hfA.out.trans hf2
    go_wp2_with fail
    exact hfin.out _ hfw

/-! ### Same -/
theorem Sps.two {W : World} {b : Nat} {x y : Sp} {t : TypeId} (h : W.heap[b]? = some (.cells #[x.enc.1, x.enc.2, y.enc.1, y.enc.2] t (0, 0))) (h1 : El W iv x.ca x.cs) (h2 : El W iv y.ca y.cs) : Sps W (some ⟨b, 0, none⟩) [x, y] := by
  refine ⟨.inr ⟨b, 0, rfl, lt_of_heap h, fun i z hz => ?_⟩, fun z hz => ?_⟩
  · match i, hz with
    | 0, hz => simp at hz; subst hz; rw [cells_of h, cells_of h]; exact ⟨rfl, rfl⟩
    | 1, hz => simp at hz; subst hz; rw [cells_of h, cells_of h]; exact ⟨rfl, rfl⟩
    | i + 2, hz => simp at hz
  · simp at hz
    rcases hz with rfl | rfl
    · exact h1
    · exact h2
def sameE (N A : List Sy) (i : Int) (cs : List Int) (j : Int) (ds : List Int) : Int := if spE N A i cs = 0 then spE N A j ds else spE N A i cs
def SameRet (w : World) (N A : List Sy) (i : Int) (cs : List Int) (j : Int) (ds : List Int) (e : Ending) (w' : World) : Prop :=
  (sameE N A i cs j ds = 0 → e = .returned (.tuple #[.bool (decide (sumS N A (i.toNat, cs) = sumS N A (j.toNat, ds))), .int .i64 0])) ∧ (sameE N A i cs j ds ≠ 0 → e = .returned (.tuple #[.bool false, .int .i64 (sameE N A i cs j ds)])) ∧ Fr w w'
set_option maxRecDepth 100000 in
set_option maxHeartbeats 2000000 in
theorem Same_any (d : Nat) (aN aA : Option Addr) (cN cA : Nat) (N A : List Sy) (i : Int) (cs : List Int) (ca : Option Addr) (cc : Nat) (j : Int) (ds : List Int) (da : Option Addr) (dc : Nat) (w : World) (hn : NotIs w aN aA cA N A) (hok : NotOk d N A) (hd : 1 ≤ d) (hcs : El w iv ca cs) (hds : El w iv da ds) (hl : cs.length ≤ 1000000000) (hl2 : ds.length ≤ 1000000000) :
    Calls Tryz.prog 29 #[.agg #[.slice aN N.length cN, .slice aA A.length cA], .agg #[.int .i64 i, .slice ca cs.length cc], .agg #[.int .i64 j, .slice da ds.length dc]] w (SameRet w N A i cs j ds) := by
  obtain ⟨nN, hnN⟩ : ∃ nN, nN = N.length := ⟨_, rfl⟩
  obtain ⟨nA, hnA⟩ : ∃ nA, nA = A.length := ⟨_, rfl⟩
  obtain ⟨nc, hnc⟩ : ∃ nc, nc = cs.length := ⟨_, rfl⟩
  obtain ⟨nd, hnd⟩ : ∃ nd, nd = ds.length := ⟨_, rfl⟩
  rw [← hnc] at hl
  rw [← hnd] at hl2
  rw [← hnN, ← hnA, ← hnc, ← hnd]
  obtain ⟨er, her⟩ : ∃ er, er = sameE N A i cs j ds := ⟨_, rfl⟩
  have hspe : spsE N A [⟨i, cs, ca, cc⟩, ⟨j, ds, da, dc⟩] = er := by
    rw [her]
    unfold sameE
    show (if spE N A i cs = 0 then (if spE N A j ds = 0 then (0 : Int) else spE N A j ds) else spE N A i cs) = _
    split
    · split
      · rename_i h; rw [h]
      · rfl
    · rfl
  have hop := fun W (hW : Fr w W) b (hS : Sps W (some ⟨b, 0, none⟩) [⟨i, cs, ca, cc⟩, ⟨j, ds, da, dc⟩]) => open_any d aN aA cN cA N A [⟨i, cs, ca, cc⟩, ⟨j, ds, da, dc⟩] (some ⟨b, 0, none⟩) 2 W (hn.fr hW) hok hS (by simp) (fun x hx => by
    simp at hx
    rcases hx with rfl | rfl
    · show cs.length ≤ _; omega
    · show ds.length ≤ _; omega)
  rw [hspe, ← hnN, ← hnA] at hop
  replace hop := Lib.hid hop
  obtain ⟨wb, hwb⟩ : ∃ wb, wb = alls w [(.cells #[.slice aN nN cN, .slice aA nA cA] 30), (.cells #[.int .i64 i, .slice ca nc cc] 42), (.cells #[.int .i64 j, .slice da nd dc] 42)] := ⟨_, rfl⟩
  have hfb : Fr w wb := by rw [hwb]; exact alls_fr _ w
  have g0 : wb.heap[w.heap.size]? = some (.cells #[.slice aN nN cN, .slice aA nA cA] 30 (0, 0)) := by rw [hwb]; exact alls_get _ w 0 _ rfl
  have g1 : wb.heap[w.heap.size + 1]? = some (.cells #[.int .i64 i, .slice ca nc cc] 42 (0, 0)) := by rw [hwb]; exact alls_get _ w 1 _ rfl
  have g2 : wb.heap[w.heap.size + 1 + 1]? = some (.cells #[.int .i64 j, .slice da nd dc] 42 (0, 0)) := by rw [hwb]; exact alls_get _ w 2 _ rfl
  have b0 : wb.cell? ⟨w.heap.size, 0, none⟩ = some (.slice aN nN cN) := cells_of g0 0
  have b1 : wb.cell? ⟨w.heap.size, 1, none⟩ = some (.slice aA nA cA) := cells_of g0 1
  have b2 : wb.cell? ⟨w.heap.size + 1, 0, none⟩ = some (.int .i64 i) := cells_of g1 0
  have b3 : wb.cell? ⟨w.heap.size + 1, 1, none⟩ = some (.slice ca nc cc) := cells_of g1 1
  have b4 : wb.cell? ⟨w.heap.size + 1 + 1, 0, none⟩ = some (.int .i64 j) := cells_of g2 0
  have b5 : wb.cell? ⟨w.heap.size + 1 + 1, 1, none⟩ = some (.slice da nd dc) := cells_of g2 1
  clear g0 g1 g2
  obtain ⟨wc, hwc⟩ : ∃ wc, wc = wb.alloc (.cells #[.int .i64 i, .slice ca nc cc, .int .i64 j, .slice da nd dc] 42) := ⟨_, rfl⟩
  have hfc : Fr wb wc := by rw [hwc]; exact (Fr.refl _).alloc _
  have g3 : wc.heap[wb.heap.size]? = some (.cells #[.int .i64 i, .slice ca nc cc, .int .i64 j, .slice da nd dc] 42 (0, 0)) := by rw [hwc]; exact heap_alloc_new _ _
  have hop2 := hop.out wc (hfb.trans hfc) wb.heap.size (Sps.two (by rw [hnc, hnd] at g3; exact g3) (hcs.fr (hfb.trans hfc)) (hds.fr (hfb.trans hfc)))
  replace hop2 := Lib.hid hop2
  clear g3 hop
  by_cases he : er = 0
  · have d1 : (er != 0) = false := by rw [he]; rfl
    have he1 : spE N A i cs = 0 := by
      unfold sameE at her
      split at her
      · assumption
      · omega
    have he2 : spE N A j ds = 0 := by
      unfold sameE at her
      rw [if_pos he1] at her
      omega
    obtain ⟨v0, v1, v2, v3⟩ := spE_inv he1
    obtain ⟨y0, y1, y2, y3⟩ := spE_inv he2
    obtain ⟨k, rfl⟩ : ∃ k : Nat, i = k := ⟨i.toNat, by omega⟩
    obtain ⟨l, rfl⟩ : ∃ l : Nat, j = l := ⟨j.toNat, by omega⟩
    have hs1 := fun W (hW : Fr w W) => sum_any d aN aA cN cA N A k cs ca cc W (hn.fr hW) hok hd (by omega) (hcs.fr hW) v2 v3
    have hs2 := fun W (hW : Fr w W) => sum_any d aN aA cN cA N A l ds da dc W (hn.fr hW) hok hd (by omega) (hds.fr hW) y2 y3
    have hL1 := sumS_length hok (i := k) (by omega) cs
    have hL2 := sumS_length hok (i := l) (by omega) ds
    have hfin : ∀ W, Fr w W → SameRet w N A k cs l ds (.returned (.tuple #[.bool (decide (sumS N A (k, cs) = sumS N A (l, ds))), .int .i64 0])) W := fun W hW => ⟨fun _ => rfl, fun h => absurd (her.symm.trans he) h, hW⟩
    rw [← hnN, ← hnA, ← hnc] at hs1
    rw [← hnN, ← hnA, ← hnd] at hs2
    have hd12 := hok.d12
    have heq := fun W a b c1 c2 (h1 : El W iv a (sumS N A (k, cs))) (h2 : El W iv b (sumS N A (l, ds))) => Equal_ints (sumS N A (k, cs)) (sumS N A (l, ds)) a b c1 c2 W h1 h2 (by omega) (by omega)
    generalize sumS N A (k, cs) = S1 at *
    generalize sumS N A (l, ds) = S2 at *
    generalize decide (S1 = S2) = q at *
    generalize hgc : SameRet w N A k cs l ds = Post at *
    replace hs1 := Lib.hid hs1
    replace hs2 := Lib.hid hs2
    replace heq := Lib.hid heq
    replace hfin := Lib.hid hfin
    clear v0 v1 v2 v3 y0 y1 y2 y3 he1 he2 hspe her hn hok hcs hds hgc hL1 hL2 hd12
    subst he
    replace hnN := Lib.hid hnN
    replace hnA := Lib.hid hnA
    replace hnc := Lib.hid hnc
    replace hnd := Lib.hid hnd
    go_enter Tryz.func29, Tryz.ntmps29
    go_upto_region 1 with (fail)
    change Code.wp _ _ _ _ (alls w [(.cells #[.slice aN nN cN, .slice aA nA cA] 30), (.cells #[.int .i64 k, .slice ca nc cc] 42), (.cells #[.int .i64 l, .slice da nd dc] 42)])
    rw [← hwb]
    clear hwb
    go_wp2_with fail
    rw [← hwc]
    clear hwc
    refine hop2.out.mono ?_
    rintro e w2 ⟨rfl, hf2⟩
    have hf02 := (hfb.trans hfc).trans hf2
    replace b0 := (hfc.trans hf2).keep b0
    replace b1 := (hfc.trans hf2).keep b1
    replace b2 := (hfc.trans hf2).keep b2
    replace b3 := (hfc.trans hf2).keep b3
    replace b4 := (hfc.trans hf2).keep b4
    replace b5 := (hfc.trans hf2).keep b5
    clear hfc hf2 hfb
    go_wp2_with fail
    go_region_held3 (fun w' => w'.cell? ⟨w.heap.size, 0, none⟩ = some (.slice aN nN cN) ∧ w'.cell? ⟨w.heap.size, 1, none⟩ = some (.slice aA nA cA) ∧ w'.cell? ⟨w.heap.size + 1, 0, none⟩ = some (.int .i64 k) ∧ w'.cell? ⟨w.heap.size + 1, 1, none⟩ = some (.slice ca nc cc) ∧ w'.cell? ⟨w.heap.size + 1 + 1, 0, none⟩ = some (.int .i64 l) ∧ w'.cell? ⟨w.heap.size + 1 + 1, 1, none⟩ = some (.slice da nd dc))
      (first | go_keep | (go_split_ands; refine ⟨?_, ?_, ?_, ?_, ?_, ?_⟩ <;> (refine Fr.keep (by assumption) ?_; assumption)))
      (first
        | (go_at_call 42; first | ((with_reducible refine (hs1.out _ ?_).mono ?_); (repeat (with_reducible first | assumption | exact Fr.refl _ | refine Fr.drew ?_ | refine Fr.drewN ?_ _ | refine Fr.alloc ?_ _ | (refine Fr.setCell ?_ (by simp only [World.size_alloc, World.size_drew, World.size_setCell]; omega) _) | refine Fr.trans ?_ (by assumption))); rintro e w3 ⟨g3, c3, rfl, hg3, he3, hf3⟩; replace he3 := Lib.hid he3) | ((with_reducible refine (hs2.out _ ?_).mono ?_); (repeat (with_reducible first | assumption | exact Fr.refl _ | refine Fr.drew ?_ | refine Fr.drewN ?_ _ | refine Fr.alloc ?_ _ | (refine Fr.setCell ?_ (by simp only [World.size_alloc, World.size_drew, World.size_setCell]; omega) _) | refine Fr.trans ?_ (by assumption))); rintro e w4 ⟨g4, c4, rfl, hg4, he4, hf4⟩; replace he4 := Lib.hid he4))
        | (go_at_call 60; (with_reducible refine (heq.out _ _ _ _ _ (he3.out.fr hf4) he4.out).mono ?_); rintro e w5 ⟨rfl, hf5⟩))
    all_goals
      have hfz := Lib.hid (show Fr w w5 by repeat (with_reducible first | assumption | exact Fr.refl _ | refine Fr.drew ?_ | refine Fr.drewN ?_ _ | refine Fr.alloc ?_ _ | (refine Fr.setCell ?_ (by simp only [World.size_alloc, World.size_drew, World.size_setCell]; omega) _) | refine Fr.trans ?_ (by assumption)))
      go_wp2_with fail
      exact hfin.out _ hfz.out
  · have d1 : (er != 0) = true := bne_iff_ne.2 he
    have hfin : ∀ W, Fr w W → SameRet w N A i cs j ds (.returned (.tuple #[.bool false, .int .i64 er])) W := fun W hW => ⟨fun h => absurd (her.trans h) he, fun _ => by rw [her], hW⟩
    generalize hgc : SameRet w N A i cs j ds = Post at *
    replace hfin := Lib.hid hfin
    clear hspe her hn hok hcs hds hgc he
    replace hnN := Lib.hid hnN
    replace hnA := Lib.hid hnA
    replace hnc := Lib.hid hnc
    replace hnd := Lib.hid hnd
    go_enter Tryz.func29, Tryz.ntmps29
    go_upto_region 1 with (fail)
    change Code.wp _ _ _ _ (alls w [(.cells #[.slice aN nN cN, .slice aA nA cA] 30), (.cells #[.int .i64 i, .slice ca nc cc] 42), (.cells #[.int .i64 j, .slice da nd dc] 42)])
    rw [← hwb]
    clear hwb
    go_wp2_with fail
    rw [← hwc]
    clear hwc
    refine hop2.out.mono ?_
    rintro e w2 ⟨rfl, hf2⟩
    go_wp2_with fail
    exact hfin.out _ ((hfb.trans hfc).trans hf2)
end Go.Proofs.YtphjfalibnnohaaGreatDoor
