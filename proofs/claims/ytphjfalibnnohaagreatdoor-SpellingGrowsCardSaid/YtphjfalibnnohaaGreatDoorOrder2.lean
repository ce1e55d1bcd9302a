/- cmp.Or, row.Compare, spelling.order. -/
import Derived.Test.YtphjfalibnnohaaGreatDoorOrder
import Derived.Deep.RegionHeld3
import Derived.Deep.DrawnRows
import Derived.Test.YtphjfalibnnohaaGreatDoorPair
namespace Go.Proofs.YtphjfalibnnohaaGreatDoor
open Go.RowKit Go.Lib
attribute [local go_sem ↓] Go.wp_at_zero Go.wp_at_succ

theorem rowCompare_any (xs ys : List Int) (a b : Option Addr) (ca cb : Nat) (w : World) (hx : El w iv a xs) (hy : El w iv b ys) (hl : xs.length ≤ 1000000) (hl2 : ys.length ≤ 1000000) :
    Calls Tryz.prog 75 #[.slice a xs.length ca, .slice b ys.length cb] w fun e w' => e = .returned (.int .i64 (cmpR xs ys)) ∧ w = w' := by
  have h := slCompare_any xs ys a b ca cb w hx hy hl hl2
  generalize cmpR xs ys = c at *
  generalize xs.length = n at *
  generalize ys.length = m at *
  clear hx hy
  go_enter Tryz.func75, Tryz.ntmps75
  go_wp2_with fail
  refine h.mono ?_
  rintro e w' ⟨rfl, rfl⟩
  go_wp2_with fail
  go_ret
  exact ⟨rfl, rfl⟩

set_option maxRecDepth 100000 in
set_option maxHeartbeats 1000000 in
theorem Or_any (xs : List Int) (a : Option Addr) (cap : Nat) (w : World) (hx : El w iv a xs) (hl : xs.length ≤ 1000000) :
    Calls Tryz.prog 49 #[.slice a xs.length cap] w fun e w' => e = .returned (.int .i64 (orL xs)) ∧ w' = w := by
  obtain ⟨n, hn⟩ : ∃ n, n = xs.length := ⟨_, rfl⟩
  rw [← hn] at hl
  rw [← hn]
  replace hn := Lib.hid hn
  replace hx := Lib.hid hx
  go_enter Tryz.func49, Tryz.ntmps49
  go_wp2_with fail
  go_loopg [8] n (fun k s8 wr => ∃ j : Nat, s8 = .int .i64 j ∧ j + k = n ∧ Hid (orL xs = orL (xs.drop j)) ∧ w = wr)
  case atStart => exact ⟨0, rfl, by omega, rfl, rfl⟩
  case round =>
    obtain ⟨j, rfl, hjk, hcj, rfl⟩ := hrel
    by_cases hj : j < n
    · have hd : decide (j < n) = true := decide_eq_true hj
      obtain ⟨b1, o1, x, rfl, hbl, hxj, hc⟩ := hx.out.at (i := j) (by rw [← hn.out]; exact hj)
      have z1 : (j : Int) < (n : Int) := by omega
      have z2 : (0 : Int) ≤ (j : Int) := by omega
      have hdx := List.drop_eq_getElem_cons (l := xs) (i := j) (by rw [← hn.out]; exact hj)
      rw [(List.getElem?_eq_some_iff.1 hxj).2] at hdx
      have hst := hcj.out
      rw [hdx, orL] at hst
      replace hst := Lib.hid hst
      clear hxj hdx hcj
      by_cases h0 : x = 0
      · subst h0
        go_wp2_with fail
        go_roundg (gk - 1)
        case measure => omega
        case rel => exact ⟨j + 1, by go_num, by omega, Lib.hid (by rw [hst.out]; rfl), rfl⟩
      · have hcb : (x == 0) = false := beq_false_of_ne h0
        go_wp2_with fail
        go_ret
        refine ⟨?_, rfl⟩
        rw [hst.out, if_neg h0]; rfl
    · obtain rfl : j = n := by omega
      have hd : decide (j < j) = false := decide_eq_false hj
      go_wp2_with fail
      go_ret
      refine ⟨?_, rfl⟩
      rw [hcj.out, List.drop_of_length_le (by rw [← hn.out]; exact Nat.le_refl _)]; rfl

theorem Or3 (x y z : Int) (W : World) : Calls Tryz.prog 49 #[.slice (some ⟨W.heap.size, 0, none⟩) 3 3] (W.alloc (.cells #[.int .i64 x, .int .i64 y, .int .i64 z] 3)) fun e w' => e = .returned (.int .i64 (orL [x, y, z])) ∧ (W.alloc (.cells #[.int .i64 x, .int .i64 y, .int .i64 z] 3)) = w' := by
  refine (Or_any [x, y, z] (some ⟨W.heap.size, 0, none⟩) 3 _ (.inr ⟨W.heap.size, 0, rfl, by simp, fun i u hu => ?_⟩) (by simp)).mono fun e w' h => ⟨h.1, h.2.symm⟩
  have h := heap_alloc_new W (.cells #[.int .i64 x, .int .i64 y, .int .i64 z] 3 (0, 0))
  unfold World.cell?
  rw [h]
  match i, hu with
  | 0, hu => simp at hu; subst hu; rfl
  | 1, hu => simp at hu; subst hu; rfl
  | 2, hu => simp at hu; subst hu; rfl
  | i + 3, hu => simp at hu
set_option maxRecDepth 100000 in
set_option maxHeartbeats 4000000 in
theorem order_any (s t : Int × List Int) (a b : Option Addr) (ca cb : Nat) (w : World) (hx : El w iv a s.2) (hy : El w iv b t.2) (hl : s.2.length ≤ 64) (hl2 : t.2.length ≤ 64) (hb : ∀ x, x ∈ s.2 → fitB x = true) (hb2 : ∀ x, x ∈ t.2 → fitB x = true) :
    Calls Tryz.prog 45 #[.agg #[.int .i64 s.1, .slice a s.2.length ca], .agg #[.int .i64 t.1, .slice b t.2.length cb]] w fun e w' => e = .returned (.int .i64 (ordS s t)) ∧ Gd w w' := by
  obtain ⟨i, xs⟩ := s
  obtain ⟨j, ys⟩ := t
  simp only at hx hy hl hl2 hb hb2 ⊢
  unfold ordS
  have k1 := fun W (hW : Fr w W) => complexity_any i xs a ca W (hx.fr hW) hl hb
  have k2 := fun W (hW : Fr w W) => complexity_any j ys b cb W (hy.fr hW) hl2 hb2
  have k3 := fun W (hW : Fr w W) => rowCompare_any xs ys a b ca cb W (hx.fr hW) (hy.fr hW) (by omega) (by omega)
  generalize cx xs = cxs at *
  generalize cx ys = cys at *
  generalize cmpR xs ys = c3 at *
  generalize xs.length = n at *
  generalize ys.length = m at *
  replace k1 := Lib.hid k1
  replace k2 := Lib.hid k2
  replace k3 := Lib.hid k3
  clear hx hy hb hb2
  go_enter Tryz.func45, Tryz.ntmps45
  go_wp2_with fail
  have g0 : Gd w ((w.alloc (.cells #[.int .i64 i, .slice a n ca] 42)).alloc (.cells #[.int .i64 j, .slice b m cb] 42)) := ((Gd.refl w).alloc _).alloc _
  have f0 : Fr w ((w.alloc (.cells #[.int .i64 i, .slice a n ca] 42)).alloc (.cells #[.int .i64 j, .slice b m cb] 42)) := ((Fr.refl w).alloc _).alloc _
  have p1 := new2a w (.int .i64 i) (.slice a n ca) 42
  have p2 := new2b w (.int .i64 i) (.slice a n ca) 42
  have p3 := new2a (w.alloc (.cells #[.int .i64 i, .slice a n ca] 42)) (.int .i64 j) (.slice b m cb) 42
  have p4 := new2b (w.alloc (.cells #[.int .i64 i, .slice a n ca] 42)) (.int .i64 j) (.slice b m cb) 42
  rw [show (w.alloc (.cells #[.int .i64 i, .slice a n ca] 42)).heap.size = w.heap.size + 1 by simp] at p3 p4
  have q1 := (Fr.refl (w.alloc (.cells #[.int .i64 i, .slice a n ca] 42))).alloc (.cells #[.int .i64 j, .slice b m cb] 42) |>.keep p1.1
  have q2 := (Fr.refl (w.alloc (.cells #[.int .i64 i, .slice a n ca] 42))).alloc (.cells #[.int .i64 j, .slice b m cb] 42) |>.keep p2.1
  have q3 := p3.1
  have q4 := p4.1
  clear p1 p2 p3 p4
  generalize ((w.alloc (.cells #[.int .i64 i, .slice a n ca] 42)).alloc (.cells #[.int .i64 j, .slice b m cb] 42)) = W at *
  have g0 : Gd w W := by assumption
  have hbs : w.heap.size + 1 < W.heap.size := World.block_lt_of_cell? W _ q3
  clear f0
  go_region_held3 (fun w' => w'.cell? ⟨w.heap.size, 0, none⟩ = some (.int .i64 i) ∧ w'.cell? ⟨w.heap.size, 1, none⟩ = some (.slice a n ca) ∧ w'.cell? ⟨w.heap.size + 1, 0, none⟩ = some (.int .i64 j) ∧ w'.cell? ⟨w.heap.size + 1, 1, none⟩ = some (.slice b m cb))
    (first | go_keep | (go_split_ands; refine ⟨?_, ?_, ?_, ?_⟩ <;> (refine Fr.keep (Gd.fr (by assumption)) ?_; assumption)))
    (first
      | (go_at_call 59; first | ((with_reducible refine (k1.out _ ?_).mono ?_); (refine Gd.fr ?_; repeat (with_reducible first | assumption | exact Gd.refl _ | refine Gd.drew ?_ | refine Gd.drewN ?_ _ | refine Gd.alloc ?_ _ | refine Gd.trans ?_ (by assumption))); rintro e w1 ⟨rfl, hf1⟩) | ((with_reducible refine (k2.out _ ?_).mono ?_); (refine Gd.fr ?_; repeat (with_reducible first | assumption | exact Gd.refl _ | refine Gd.drew ?_ | refine Gd.drewN ?_ _ | refine Gd.alloc ?_ _ | refine Gd.trans ?_ (by assumption))); rintro e w1 ⟨rfl, hf1⟩))
      | (go_at_call 75; (with_reducible refine (k3.out _ ?_).mono ?_); (refine Gd.fr ?_; repeat (with_reducible first | assumption | exact Gd.refl _ | refine Gd.drew ?_ | refine Gd.drewN ?_ _ | refine Gd.alloc ?_ _ | refine Gd.trans ?_ (by assumption))); rintro e w1 ⟨rfl, rfl⟩)
      | (go_at_call 50; (with_reducible refine (Compare_int _ _ _).mono ?_); rintro e w1 ⟨rfl, rfl⟩)
      | (go_at_call 49; (with_reducible refine (Or3 _ _ _ _).mono ?_); rintro e w1 ⟨rfl, rfl⟩))
  all_goals
    go_wp2_with fail
    go_ret
    exact ⟨rfl, by repeat (with_reducible first | assumption | exact Gd.refl _ | refine Gd.drew ?_ | refine Gd.drewN ?_ _ | refine Gd.alloc ?_ _ | refine Gd.trans ?_ (by assumption))⟩
end Go.Proofs.YtphjfalibnnohaaGreatDoor
