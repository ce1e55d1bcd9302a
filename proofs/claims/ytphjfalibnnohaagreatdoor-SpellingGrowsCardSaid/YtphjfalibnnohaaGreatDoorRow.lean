/- Contracts of package row: Check, CheckAll, Compare; slices.Equal, Clone at rows. -/
import Derived.Test.YtphjfalibnnohaaGreatDoorMem
namespace Go.Proofs.YtphjfalibnnohaaGreatDoor
open Go.RowKit Go.Lib

def fitB (n : Int) : Bool := decide (-1000000000 ≤ n ∧ n ≤ 1000000000)
/-- the error of a row -/
def rowE (xs : List Int) : Int := if 64 < xs.length then 4 else if xs.any (fun n => !fitB n) then 4 else 0
theorem rowE_long {xs : List Int} (h : 64 < xs.length) : rowE xs = 4 := by unfold rowE; rw [if_pos h]
theorem rowE_bad {xs : List Int} (h : xs.any (fun n => !fitB n) = true) : rowE xs = 4 := by unfold rowE; rw [h]; split <;> rfl
theorem rowE_ok {xs : List Int} (h : ¬ 64 < xs.length) (h2 : xs.any (fun n => !fitB n) = false) : rowE xs = 0 := by unfold rowE; rw [if_neg h, h2]; rfl
theorem ret_bool {a b : Bool} (h : a = b) : Ending.returned (.bool a) = Ending.returned (.bool b) := by rw [h]

theorem fits_any (n : Int) (w : World) : Calls Tryz.prog 57 #[.int .i64 n] w fun e w' => e = .returned (.bool (fitB n)) ∧ w = w' := by
  by_cases h1 : -1000000000 ≤ n
  · by_cases h2 : n ≤ 1000000000
    · have hf := Lib.hid (show fitB n = true from decide_eq_true ⟨h1, h2⟩)
      go_enter Tryz.func57, Tryz.ntmps57
      go_wp2
      go_ret
      exact ⟨ret_bool hf.out.symm, rfl⟩
    · have hf := Lib.hid (show fitB n = false from decide_eq_false (fun h => h2 h.2))
      have d2 : decide (n ≤ 1000000000) = false := decide_eq_false h2
      go_enter Tryz.func57, Tryz.ntmps57
      go_wp2
      go_ret
      exact ⟨ret_bool hf.out.symm, rfl⟩
  · have hf := Lib.hid (show fitB n = false from decide_eq_false (fun h => h1 h.1))
    have d1 : decide (-1000000000 ≤ n) = false := decide_eq_false h1
    go_enter Tryz.func57, Tryz.ntmps57
    go_wp2
    go_ret
    exact ⟨ret_bool hf.out.symm, rfl⟩

theorem Check1_pred (w : World) (xs : List Int) : Pred w 56 #[] iv (fun n => !fitB n) xs := fun x W _ _ => by
  show Calls Tryz.prog 56 #[.int .i64 x] W _
  go_enter Tryz.func56, Tryz.ntmps56
  go_wp2_with fail
  refine (fits_any x _).mono ?_; rintro e w' ⟨rfl, rfl⟩
  go_wp2_with fail
  go_ret
  exact ⟨rfl, Fr.refl _⟩

theorem Check_row (xs : List Int) (a : Option Addr) (cap : Nat) (w : World) (hx : El w iv a xs) (hl : xs.length ≤ 1000000000) :
    Calls Tryz.prog 26 #[.slice a xs.length cap] w fun e w' => e = .returned (.int .i64 (rowE xs)) ∧ Fr w w' := by
  by_cases h : 64 < xs.length
  · have hf := Lib.hid (rowE_long h)
    go_enter Tryz.func26, Tryz.ntmps26
    go_wp2_with fail
    go_ret
    exact ⟨ret_int hf.out.symm, Fr.refl _⟩
  · have eg : ∀ args w, (callFunc 56 args).run Tryz.prog w = .ok (.enter 56 args) w := enters_of Tryz.func56 (by kernel_rfl) rfl
    have hc := ContainsFunc_row xs a cap 56 #[] (fun n => !fitB n) w eg hx hl (Check1_pred w xs)
    have d1 : decide ((64 : Int) < (xs.length : Int)) = false := decide_eq_false (by omega)
    have hh := Lib.hid h
    clear h eg
    cases hb : xs.any (fun n => !fitB n)
    · have hf := Lib.hid (rowE_ok hh.out hb)
      rw [hb] at hc; clear hb
      go_enter Tryz.func26, Tryz.ntmps26
      go_wp2_with fail
      refine hc.mono ?_; rintro e w' ⟨rfl, hf1⟩
      go_wp2_with fail
      go_ret
      exact ⟨ret_int hf.out.symm, hf1⟩
    · have hf := Lib.hid (rowE_bad hb)
      rw [hb] at hc; clear hb
      go_enter Tryz.func26, Tryz.ntmps26
      go_wp2_with fail
      refine hc.mono ?_; rintro e w' ⟨rfl, hf1⟩
      go_wp2_with fail
      go_ret
      exact ⟨ret_int hf.out.symm, hf1⟩

/-! ### slices.Equal -/
theorem take_step {α : Type} {xs ys : List α} {k : Nat} {x : α} (h : xs.take k = ys.take k) (hx : xs[k]? = some x) (hy : ys[k]? = some x) : Hid (xs.take (k + 1) = ys.take (k + 1)) := by
  show _ = _
  rw [List.take_add_one, List.take_add_one, h, hx, hy]
set_option maxHeartbeats 400000 in
theorem Equal_row (xs ys : List Int) (a b : Option Addr) (ca cb : Nat) (w : World) (hx : El w iv a xs) (hy : El w iv b ys) (_hl : xs.length ≤ 1000000000) (_hm : ys.length ≤ 1000000000) :
    Calls Tryz.prog 15 #[.slice a xs.length ca, .slice b ys.length cb] w fun e w' => e = .returned (.bool (decide (xs = ys))) ∧ Fr w w' := by
  by_cases hlen : xs.length = ys.length
  · have hne : ((xs.length : Int) != ys.length) = false := by rw [hlen]; simp
    have hlen := Lib.hid hlen
    rename_i hlen0
    clear hlen0
    go_enter Tryz.func15, Tryz.ntmps15
    go_wp2_with fail
    go_loopw [5, 13] (fun _ s13 wr => ∃ k : Nat, s13 = .int .i64 k ∧ k ≤ xs.length ∧ Fr w wr ∧ Hid (xs.take k = ys.take k)) (fun _ s13 _ => xs.length - (RowKit.intOf s13).toNat)
    case atStart => exact ⟨0, rfl, Nat.zero_le _, Fr.refl _, show _ = _ by simp⟩
    case round =>
      obtain ⟨k, rfl, hk, hf, hb⟩ := hrel
      by_cases hlt : k < xs.length
      · have hlt2 : k < ys.length := by rw [← hlen.out]; exact hlt
        obtain ⟨b1, o1, x, rfl, hbl1, hxk, hcell1⟩ := (hx.fr hf).at hlt
        obtain ⟨b2, o2, y, rfl, hbl2, hyk, hcell2⟩ := (hy.fr hf).at hlt2
        have hxk := Lib.hid hxk
        have hyk := Lib.hid hyk
        by_cases hxy : x = y
        · have hq : (x != y) = false := by rw [hxy]; simp
          have hxy := Lib.hid hxy
          rename_i hxy0; clear hxy0
          go_wp2_with fail
          go_quiet (fail)
          go_wp2_with fail
          go_roundw
          case rel => exact ⟨k + 1, by go_num, by omega, hf.drewN _, take_step hb.out hxk.out (by rw [hxy.out]; exact hyk.out)⟩
          case measure => simp [RowKit.intOf]; omega
        · have hq : (x != y) = true := by rw [bne_iff_ne]; exact hxy
          have hfin := Lib.hid (show decide (xs = ys) = false from decide_eq_false (fun e => hxy (by have h1 := hxk.out; have h2 := hyk.out; rw [e, h2] at h1; injection h1 with h1; exact h1.symm)))
          clear hxy
          go_wp2_with fail
          go_quiet (fail)
          go_wp2_with fail
          go_ret
          exact ⟨ret_bool hfin.out.symm, hf.drewN _⟩
      · have hfin := Lib.hid (show decide (xs = ys) = true from decide_eq_true (by have h := hb.out; rw [List.take_of_length_le (by omega), List.take_of_length_le (by have := hlen.out; omega)] at h; exact h))
        go_wp2_with fail
        go_ret
        exact ⟨ret_bool hfin.out.symm, hf⟩
  · have hne : ((xs.length : Int) != ys.length) = true := by rw [bne_iff_ne]; omega
    have hfin := Lib.hid (show decide (xs = ys) = false from decide_eq_false (fun e => hlen (by rw [e])))
    clear hlen
    go_enter Tryz.func15, Tryz.ntmps15
    go_wp2_with fail
    go_ret
    exact ⟨ret_bool hfin.out.symm, Fr.refl _⟩
set_option maxHeartbeats 400000 in
theorem Equal_ints (xs ys : List Int) (a b : Option Addr) (ca cb : Nat) (w : World) (hx : El w iv a xs) (hy : El w iv b ys) (_hl : xs.length ≤ 1000000000) (_hm : ys.length ≤ 1000000000) :
    Calls Tryz.prog 60 #[.slice a xs.length ca, .slice b ys.length cb] w fun e w' => e = .returned (.bool (decide (xs = ys))) ∧ Fr w w' := by
  by_cases hlen : xs.length = ys.length
  · have hne : ((xs.length : Int) != ys.length) = false := by rw [hlen]; simp
    have hlen := Lib.hid hlen
    rename_i hlen0
    clear hlen0
    go_enter Tryz.func60, Tryz.ntmps60
    go_wp2_with fail
    go_loopw [5, 13] (fun _ s13 wr => ∃ k : Nat, s13 = .int .i64 k ∧ k ≤ xs.length ∧ Fr w wr ∧ Hid (xs.take k = ys.take k)) (fun _ s13 _ => xs.length - (RowKit.intOf s13).toNat)
    case atStart => exact ⟨0, rfl, Nat.zero_le _, Fr.refl _, show _ = _ by simp⟩
    case round =>
      obtain ⟨k, rfl, hk, hf, hb⟩ := hrel
      by_cases hlt : k < xs.length
      · have hlt2 : k < ys.length := by rw [← hlen.out]; exact hlt
        obtain ⟨b1, o1, x, rfl, hbl1, hxk, hcell1⟩ := (hx.fr hf).at hlt
        obtain ⟨b2, o2, y, rfl, hbl2, hyk, hcell2⟩ := (hy.fr hf).at hlt2
        have hxk := Lib.hid hxk
        have hyk := Lib.hid hyk
        by_cases hxy : x = y
        · have hq : (x != y) = false := by rw [hxy]; simp
          have hxy := Lib.hid hxy
          rename_i hxy0; clear hxy0
          go_wp2_with fail
          go_quiet (fail)
          go_wp2_with fail
          go_roundw
          case rel => exact ⟨k + 1, by go_num, by omega, hf.drewN _, take_step hb.out hxk.out (by rw [hxy.out]; exact hyk.out)⟩
          case measure => simp [RowKit.intOf]; omega
        · have hq : (x != y) = true := by rw [bne_iff_ne]; exact hxy
          have hfin := Lib.hid (show decide (xs = ys) = false from decide_eq_false (fun e => hxy (by have h1 := hxk.out; have h2 := hyk.out; rw [e, h2] at h1; injection h1 with h1; exact h1.symm)))
          clear hxy
          go_wp2_with fail
          go_quiet (fail)
          go_wp2_with fail
          go_ret
          exact ⟨ret_bool hfin.out.symm, hf.drewN _⟩
      · have hfin := Lib.hid (show decide (xs = ys) = true from decide_eq_true (by have h := hb.out; rw [List.take_of_length_le (by omega), List.take_of_length_le (by have := hlen.out; omega)] at h; exact h))
        go_wp2_with fail
        go_ret
        exact ⟨ret_bool hfin.out.symm, hf⟩
  · have hne : ((xs.length : Int) != ys.length) = true := by rw [bne_iff_ne]; omega
    have hfin := Lib.hid (show decide (xs = ys) = false from decide_eq_false (fun e => hlen (by rw [e])))
    clear hlen
    go_enter Tryz.func60, Tryz.ntmps60
    go_wp2_with fail
    go_ret
    exact ⟨ret_bool hfin.out.symm, Fr.refl _⟩
end Go.Proofs.YtphjfalibnnohaaGreatDoor
