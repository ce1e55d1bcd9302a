/- spelling.complexity, order. -/
import Derived.Test.YtphjfalibnnohaaGreatDoorBox
namespace Go.Proofs.YtphjfalibnnohaaGreatDoor
open Go.RowKit Go.Lib

/-- draws and new blocks alone -/
def Gd (w w' : World) : Prop := ∃ q os, w' = Go.Sort.grow (w.drewN q) os
theorem Gd.refl (w : World) : Gd w w := ⟨0, #[], by rw [Go.Sort.grow_empty]; rfl⟩
theorem Gd.drewN {a b : World} (h : Gd a b) (n : Nat) : Gd a (b.drewN n) := by
  obtain ⟨q, os, rfl⟩ := h
  exact ⟨q + n, os, by simp [World.drewN, Go.Sort.grow, Nat.add_assoc]⟩
theorem Gd.drew {a b : World} (h : Gd a b) : Gd a b.drew := h.drewN 1
theorem Gd.alloc {a b : World} (h : Gd a b) (o : Obj) : Gd a (b.alloc o) := by
  obtain ⟨q, os, rfl⟩ := h
  exact ⟨q, os ++ #[o], by rw [Go.Sort.alloc_eq_grow, Go.Sort.grow_grow]⟩
theorem Gd.trans {a b c : World} (h : Gd a b) (k : Gd b c) : Gd a c := by
  obtain ⟨q, os, rfl⟩ := h
  obtain ⟨q', os', rfl⟩ := k
  exact ⟨q + q', os ++ os', by simp [World.drewN, Go.Sort.grow, Nat.add_assoc, Array.append_assoc]⟩
theorem Gd.fr {a b : World} (h : Gd a b) : Fr a b := by
  obtain ⟨q, os, rfl⟩ := h
  refine show Below a.heap.size a _ from ⟨rfl, rfl, rfl, by simp [World.drewN, Go.Sort.grow], fun k hk => ?_⟩
  show (a.heap ++ os)[k]? = a.heap[k]?
  rw [Array.getElem?_append_left hk]
theorem Gd.of_eq {a b : World} (h : a = b) : Gd a b := h ▸ Gd.refl a
attribute [local go_sem ↓] Go.wp_at_zero Go.wp_at_succ

theorem cx_append (a b : List Int) : cx (a ++ b) = cx a + cx b := by
  induction a with
  | nil => simp [cx]
  | cons x l ih => simp [cx, ih]; omega
theorem cx_take {l : List Int} {j : Nat} {x : Int} (h : l[j]? = some x) : cx (l.take (j + 1)) = cx (l.take j) + (x.natAbs : Int) := by
  rw [take_snoc h, cx_append]; simp [cx]
theorem cx_bound {l : List Int} (h : ∀ x, x ∈ l → fitB x = true) : 0 ≤ cx l ∧ cx l ≤ 1000000000 * l.length := by
  induction l with
  | nil => simp [cx]
  | cons x l ih =>
    have h1 := ih fun y hy => h y (List.mem_cons_of_mem _ hy)
    have h2 := h x (List.mem_cons_self ..)
    unfold fitB at h2
    have h2 := of_decide_eq_true h2
    simp only [cx, List.length_cons]
    omega

set_option maxRecDepth 100000 in
set_option maxHeartbeats 1000000 in
theorem complexity_any (i : Int) (cs : List Int) (a : Option Addr) (cap : Nat) (w : World) (hx : El w iv a cs) (hl : cs.length ≤ 64) (hb : ∀ x, x ∈ cs → fitB x = true) :
    Calls Tryz.prog 59 #[.agg #[.int .i64 i, .slice a cs.length cap]] w fun e w' => e = .returned (.int .i64 (cx cs)) ∧ Gd w w' := by
  obtain ⟨n, hn⟩ : ∃ n, n = cs.length := ⟨_, rfl⟩
  rw [← hn] at hl
  replace hn := Lib.hid hn
  rw [← hn.out]
  replace hx := Lib.hid hx
  replace hb := Lib.hid hb
  go_enter Tryz.func59, Tryz.ntmps59
  go_wp2_with fail
  go_loopg [3, 9] n (fun k s3 s9 wr => ∃ j : Nat, s9 = .int .i64 j ∧ j + k = n ∧ s3 = .int .i64 (cx (cs.take j)) ∧ Gd w wr)
  case atStart => exact ⟨0, rfl, by omega, rfl, (Gd.refl w).alloc _⟩
  case round =>
    obtain ⟨j, rfl, hjk, rfl, hf⟩ := hrel
    by_cases hj : j < n
    · obtain ⟨b, o, x, rfl, hbl, hxj, hc⟩ := (hx.out.fr hf.fr).at (i := j) (by rw [← hn.out]; exact hj)
      have hd : decide (j < n) = true := decide_eq_true hj
      have hs := Lib.hid (cx_take hxj)
      have hbd := cx_bound (l := cs.take j) (fun y hy => hb.out y (List.mem_of_mem_take hy))
      have hfx := hb.out x (List.mem_of_getElem? hxj)
      unfold fitB at hfx
      have hfx := of_decide_eq_true hfx
      have hll : (cs.take j).length = j := by rw [List.length_take, ← hn.out]; omega
      rw [hll] at hbd
      obtain ⟨t, ht⟩ : ∃ t, t = cx (cs.take j) := ⟨_, rfl⟩
      rw [← ht] at hbd hs ⊢
      have hw : -1000000000 ≤ x ∧ x ≤ 1000000000 := by omega
      clear hxj hll
      go_wp2_with fail
      go_roundg (gk - 1)
      case measure => omega
      case rel =>
        refine ⟨j + 1, by go_num, by omega, ?_, hf⟩
        rw [hs.out, ht]; congr 1; omega
    · obtain rfl : j = n := by omega
      have hd : decide (j < j) = false := decide_eq_false hj
      go_wp2_with fail
      go_ret
      refine ⟨?_, hf⟩
      show Ending.returned (.int .i64 (cx (cs.take j))) = _
      rw [List.take_of_length_le (by rw [← hn.out]; exact Nat.le_refl _)]

theorem Compare_int (x y : Int) (w : World) : Calls Tryz.prog 50 #[.int .i64 x, .int .i64 y] w fun e w' => e = .returned (.int .i64 (Lib.compareInt x y)) ∧ w' = w :=
  Tryz.cmp_Compare_int x y w

set_option maxRecDepth 100000 in
set_option maxHeartbeats 1000000 in
theorem slCompare_any (xs ys : List Int) (a b : Option Addr) (ca cb : Nat) (w : World) (hx : El w iv a xs) (hy : El w iv b ys) (hl : xs.length ≤ 1000000) (hl2 : ys.length ≤ 1000000) :
    Calls Tryz.prog 51 #[.slice a xs.length ca, .slice b ys.length cb] w fun e w' => e = .returned (.int .i64 (cmpR xs ys)) ∧ w' = w := by
  obtain ⟨n, hn⟩ : ∃ n, n = xs.length := ⟨_, rfl⟩
  obtain ⟨m, hm⟩ : ∃ m, m = ys.length := ⟨_, rfl⟩
  rw [← hn] at hl
  rw [← hm] at hl2
  rw [← hn, ← hm]
  replace hn := Lib.hid hn
  replace hm := Lib.hid hm
  replace hx := Lib.hid hx
  replace hy := Lib.hid hy
  go_enter Tryz.func51, Tryz.ntmps51
  go_wp2_with fail
  go_loopg [11] n (fun k s11 wr => ∃ j : Nat, s11 = .int .i64 j ∧ j + k = n ∧ j ≤ m ∧ Hid (cmpR xs ys = cmpR (xs.drop j) (ys.drop j)) ∧ w = wr)
  case atStart => exact ⟨0, rfl, by omega, by omega, rfl, rfl⟩
  case round =>
    obtain ⟨j, rfl, hjk, hjm, hcj, rfl⟩ := hrel
    by_cases hj : j < n
    · have hd : decide (j < n) = true := decide_eq_true hj
      obtain ⟨b1, o1, x, rfl, hbl, hxj, hc⟩ := hx.out.at (i := j) (by rw [← hn.out]; exact hj)
      have z1 : (j : Int) < (n : Int) := by omega
      have z2 : (0 : Int) ≤ (j : Int) := by omega
      have hdx := List.drop_eq_getElem_cons (l := xs) (i := j) (by rw [← hn.out]; exact hj)
      rw [(List.getElem?_eq_some_iff.1 hxj).2] at hdx
      replace hdx := Lib.hid hdx
      clear hxj
      by_cases hj2 : j < m
      · have hd2 : decide (m ≤ j) = false := decide_eq_false (by omega)
        obtain ⟨b2, o2, y, rfl, hbl2, hyj, hc2⟩ := hy.out.at (i := j) (by rw [← hm.out]; exact hj2)
        have hdy := List.drop_eq_getElem_cons (l := ys) (i := j) (by rw [← hm.out]; exact hj2)
        rw [(List.getElem?_eq_some_iff.1 hyj).2] at hdy
        replace hdy := Lib.hid hdy
        clear hyj
        have z3 : (j : Int) < (m : Int) := by omega
        have hst := hcj.out
        rw [hdx.out, hdy.out, cmpR] at hst
        replace hst := Lib.hid hst
        clear hcj
        go_wp2_with fail
        refine (Compare_int x y _).mono ?_
        rintro e w' ⟨rfl, rfl⟩
        generalize Lib.compareInt x y = c at *
        by_cases hc0 : c = 0
        · subst hc0
          go_wp2_with fail
          go_roundg (gk - 1)
          case measure => omega
          case rel => exact ⟨j + 1, by go_num, by omega, by omega, Lib.hid (by rw [hst.out]; rfl), rfl⟩
        · have hcb : (c == 0) = false := beq_false_of_ne hc0
          go_wp2_with fail
          go_ret
          refine ⟨?_, rfl⟩
          rw [hst.out, if_neg hc0]; rfl
      · obtain rfl : j = m := by omega
        have hd2 : decide (j ≤ j) = true := by simp
        go_wp2_with fail
        go_ret
        refine ⟨?_, rfl⟩
        rw [hcj.out, hdx.out, List.drop_of_length_le (l := ys) (by rw [← hm.out]; exact Nat.le_refl _)]; rfl
    · obtain rfl : j = n := by omega
      have hd : decide (j < j) = false := decide_eq_false hj
      have hdx : xs.drop j = [] := List.drop_of_length_le (by rw [← hn.out]; exact Nat.le_refl _)
      by_cases hjm2 : j < m
      · have hd2 : decide (j < m) = true := decide_eq_true hjm2
        go_wp2_with fail
        go_ret
        refine ⟨?_, rfl⟩
        rw [hcj.out, hdx, List.drop_eq_getElem_cons (l := ys) (i := j) (by rw [← hm.out]; exact hjm2)]; rfl
      · have hd2 : decide (j < m) = false := decide_eq_false hjm2
        go_wp2_with fail
        go_ret
        refine ⟨?_, rfl⟩
        rw [hcj.out, hdx, List.drop_of_length_le (l := ys) (by rw [← hm.out]; omega)]; rfl
end Go.Proofs.YtphjfalibnnohaaGreatDoor
