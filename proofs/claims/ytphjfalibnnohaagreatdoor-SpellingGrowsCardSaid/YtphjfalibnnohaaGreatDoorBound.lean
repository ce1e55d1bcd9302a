/- spelling.bound. -/
import Derived.Test.YtphjfalibnnohaaGreatDoorRead
namespace Go.Proofs.YtphjfalibnnohaaGreatDoor
open Go.RowKit Go.Lib

/-- the error of a bound: behind k of the accidentals -/
def bdE (tot most : Int) : Nat → Int
  | 0 => 0
  | k + 1 => if 20000 < most then 4 else if 20000 < tot * (2 * most + 1) then 4 else bdE (tot * (2 * most + 1)) most k
def boundE (n a : Nat) (most : Int) : Int := if most < 0 then 3 else bdE n most a

set_option maxRecDepth 100000 in
set_option maxHeartbeats 1000000 in
theorem bound_any (aN aA : Option Addr) (cN cA n a : Nat) (most : Int) (w : World) (hn : n ≤ 20000) (ha : a ≤ 1000000) :
    Calls Tryz.prog 37 #[.agg #[.slice aN n cN, .slice aA a cA], .int .i64 most] w fun e w' => e = .returned (.int .i64 (boundE n a most)) ∧ Fr w w' := by
  have hf2 : Fr w (w.alloc (.cells #[.slice aN n cN, .slice aA a cA] 30)) := (Fr.refl w).alloc _
  replace hf2 := Lib.hid hf2
  by_cases h0 : most < 0
  · have hfin := Lib.hid (show boundE n a most = 3 by unfold boundE; rw [if_pos h0])
    go_enter Tryz.func37, Tryz.ntmps37
    go_wp2_with fail
    go_ret
    exact ⟨ret_int hfin.out.symm, hf2.out⟩
  · have hfin := Lib.hid (show boundE n a most = bdE n most a by unfold boundE; rw [if_neg h0])
    have d0 : decide (most < 0) = false := decide_eq_false h0
    have h0' : 0 ≤ most := by omega
    clear h0
    go_enter Tryz.func37, Tryz.ntmps37
    go_wp2_with fail
    go_loopg [5, 14] a (fun k s5 s14 wr => ∃ (j : Nat) (tot : Int), s14 = .int .i64 j ∧ j + k = a ∧ s5 = .int .i64 tot ∧ 0 ≤ tot ∧ tot ≤ 20000 ∧ Hid (bdE n most a = bdE tot most k) ∧ wr = w.alloc (.cells #[.slice aN n cN, .slice aA a cA] 30))
    case atStart => exact ⟨0, n, rfl, by omega, rfl, by omega, by omega, rfl, rfl⟩
    case round =>
      obtain ⟨j, tot, rfl, hjk, rfl, ht0, ht1, he, rfl⟩ := hrel
      by_cases hj : j < a
      · have hdJ : decide (j < a) = true := decide_eq_true hj
        obtain ⟨k1, rfl⟩ : ∃ k1, gk = k1 + 1 := ⟨gk - 1, by omega⟩
        by_cases hm : 20000 < most
        · have dm : decide (20000 < most) = true := decide_eq_true hm
          have hf := Lib.hid (show bdE n most a = 4 by rw [he.out, bdE, if_pos hm])
          clear he
          go_wp2_with fail
          go_ret
          exact ⟨ret_int (by rw [hfin.out, hf.out]), hf2.out⟩
        · have dm : decide (20000 < most) = false := decide_eq_false hm
          have hm' : most ≤ 20000 := by omega
          have hp0 : 0 ≤ tot * (2 * most + 1) := Int.mul_nonneg ht0 (by omega)
          have hp1 : tot * (2 * most + 1) ≤ 20000 * 40001 := Int.mul_le_mul ht1 (by omega) (by omega) (by omega)
          have he2 := Lib.hid (show bdE n most a = if 20000 < tot * (2 * most + 1) then 4 else bdE (tot * (2 * most + 1)) most k1 by rw [he.out, bdE, if_neg hm])
          clear he hm
          by_cases hq : 20000 < tot * (2 * most + 1)
          · have dq : decide (20000 < tot * (2 * most + 1)) = true := decide_eq_true hq
            have hf := Lib.hid (show bdE n most a = 4 by rw [he2.out, if_pos hq])
            clear he2
            go_wp2_with fail
            go_ret
            exact ⟨ret_int (by rw [hfin.out, hf.out]), hf2.out⟩
          · have dq : decide (20000 < tot * (2 * most + 1)) = false := decide_eq_false hq
            have hf := Lib.hid (show bdE n most a = bdE (tot * (2 * most + 1)) most k1 by rw [he2.out, if_neg hq])
            clear he2
            go_wp2_with fail
            go_roundg k1
            case measure => omega
            case rel => exact ⟨j + 1, _, by go_num, by omega, rfl, hp0, by omega, hf, rfl⟩
      · obtain rfl : j = a := by omega
        have hdJ : decide (j < j) = false := decide_eq_false (by omega)
        obtain rfl : gk = 0 := by omega
        have hf := Lib.hid (show bdE n most j = 0 by rw [he.out, bdE])
        clear he
        go_wp2_with fail
        go_ret
        exact ⟨ret_int (by rw [hfin.out, hf.out]), hf2.out⟩

/-- a bound that is kept bounds the number of spellings -/
theorem bdE_size {most : Nat} : ∀ (a : Nat) (tot : Nat), tot ≤ 20000 → bdE tot most a = 0 → tot * (2 * most + 1) ^ a ≤ 20000
  | 0, tot, h, _ => by simpa using h
  | a + 1, tot, _, h => by
    rw [bdE] at h
    split at h
    · omega
    · split at h
      · omega
      · rename_i h1 h2
        have e : ((tot : Int) * (2 * most + 1)) = ((tot * (2 * most + 1) : Nat) : Int) := by simp
        rw [e] at h h2
        have := bdE_size a (tot * (2 * most + 1)) (by omega) h
        rw [Nat.pow_succ, Nat.mul_comm ((2 * most + 1) ^ a), ← Nat.mul_assoc]
        exact this
end Go.Proofs.YtphjfalibnnohaaGreatDoor
