/- lattice: form of one row, Of at one row. -/
import Derived.Test.YtphjfalibnnohaaGreatDoorLat2
import Derived.Test.YtphjfalibnnohaaGreatDoorHerm2
namespace Go.Proofs.YtphjfalibnnohaaGreatDoor
open Go.RowKit Go.Lib
attribute [local go_sem ↓] Go.wp_at_zero Go.wp_at_succ

set_option maxRecDepth 100000 in
set_option maxHeartbeats 4000000 in
theorem form1_any (ob oo oc n : Nat) (x : Int) (xs : List Int) (hs : List (Nat × Nat × Nat)) (w : World) (hg : GridIs w ob oo hs [x :: xs]) (hx : 0 < x) (hsx : Sm x) (hn : 1 ≤ n) (hn2 : n ≤ 1000000) (hl : xs.length ≤ 1000000) (hoc : 1 ≤ oc) :
    Calls Tryz.prog 96 #[.slice (some ⟨ob, oo, none⟩) 1 oc, .int .i64 n] w fun e w' => e = .returned (.slice (some ⟨ob, oo, none⟩) 1 oc) ∧ Fx (gb ob hs) w w' ∧ GridIs w' ob oo hs [x :: xs] := by
  have hb := tx_beq0 x
  rw [decide_eq_false (show ¬ x = 0 by omega)] at hb
  have hsz := Lib.hid hsx.size
  replace hg := Lib.hid hg
  replace hsx := Lib.hid hsx
  go_enter Tryz.func96, Tryz.ntmps96
  go_wp2_with fail
  go_loopg [5, 6] 1 (fun k s5 s6 wr => ∃ d : Nat, s5 = .int .i64 d ∧ s6 = .int .i64 d ∧ d + k = 1 ∧ Hid (GridIs wr ob oo hs [x :: xs]) ∧ Fx (gb ob hs) w wr)
  case atStart => exact ⟨0, rfl, rfl, rfl, hg, Fx.refl _ _⟩
  case round =>
    obtain ⟨d, rfl, rfl, hdk, hg1, hfx1⟩ := hrel
    by_cases hd : d = 0
    · subst hd
      obtain rfl : gk = 1 := by omega
      obtain ⟨wo, rfl⟩ : ∃ wo : World, wo = wr := ⟨_, rfl⟩
      go_wp2_with fail
      go_loopg [5] 0 (fun _ s5 wr2 => s5 = .int .i64 0 ∧ wo = wr2)
      case atStart => exact ⟨rfl, rfl⟩
      case round =>
        obtain ⟨rfl, rfl⟩ := hrel
        go_wp2_with fail
        go_loopg [7, 8] 1 (fun m s7 s8 wr3 => ∃ i : Nat, s8 = .int .i64 i ∧ i + m = 1 ∧ s7 = .int .i64 ((i : Int) - 1) ∧ Qt wo wr3)
        case atStart => exact ⟨0, rfl, rfl, rfl, Qt.refl _⟩
        case round =>
          obtain ⟨i, rfl, him, rfl, hq3⟩ := hrel
          by_cases hi : i = 0
          · subst hi
            have hgr3 := hg1.out.fr hq3.fr
            obtain ⟨bi, oi, ki, hsi, cai, cfi, roi, boi⟩ := hgr3.at (i := 0) (by simp)
            have cei := (roi.2.2 0 x rfl).1
            simp only [Nat.add_zero, List.getElem_cons_zero, List.length_cons] at cai cfi cei
            have zl : (0 : Int) < ((xs.length + 1 : Nat) : Int) := by omega
            have zm : 0 < xs.length + 1 := by omega
            go_wp2_with fail
            go_quiet (fail)
            go_wp2_with fail
            go_roundg 0
            case measure => omega
            case rel => exact ⟨1, by go_num, by omega, by go_num, by repeat (with_reducible first | assumption | exact Qt.refl _ | refine Qt.drew ?_ | refine Qt.drewN ?_ _ | refine Qt.trans ?_ (by assumption))⟩
          · obtain rfl : i = 1 := by omega
            have hgr3 := hg1.out.fr hq3.fr
            have hfx3 := hfx1.fr hq3.fr
            obtain ⟨bi, oi, ki, hsi, cai, cfi, roi, boi⟩ := hgr3.at (i := 0) (by simp)
            have cei := (roi.2.2 0 x rfl).1
            simp only [Nat.add_zero, List.getElem_cons_zero, List.length_cons] at cai cfi cei
            have zl : (0 : Int) < ((xs.length + 1 : Nat) : Int) := by omega
            have zm : 0 < xs.length + 1 := by omega
            replace hgr3 := Lib.hid hgr3
            go_wp2_with fail
            go_region
            have hgX : GridIs ((wr.setCell ⟨ob, oo, none⟩ (.slice (some ⟨bi, oi, none⟩) (xs.length + 1) ki)).setCell ⟨ob, oo, none⟩ (.slice (some ⟨bi, oi, none⟩) (xs.length + 1) ki)).drew ob oo hs [x :: xs] := (hgr3.out.same (i := 0) cai).fr (Fr.refl _).drew
            have hfX : Fx (gb ob hs) w ((wr.setCell ⟨ob, oo, none⟩ (.slice (some ⟨bi, oi, none⟩) (xs.length + 1) ki)).setCell ⟨ob, oo, none⟩ (.slice (some ⟨bi, oi, none⟩) (xs.length + 1) ki)).drew :=
              ((hfx3.setCell (q := ⟨ob, oo, none⟩) (.inl (.inl rfl)) _).setCell (q := ⟨ob, oo, none⟩) (.inl (.inl rfl)) _).drew
            generalize ((wr.setCell ⟨ob, oo, none⟩ (.slice (some ⟨bi, oi, none⟩) (xs.length + 1) ki)).setCell ⟨ob, oo, none⟩ (.slice (some ⟨bi, oi, none⟩) (xs.length + 1) ki)).drew = W at hgX hfX ⊢
            clear hgr3 hfx3 hsi cai cfi roi boi cei hg1 hfx1
            go_wp2_with fail
            go_loopg [9, 10] 0 (fun _ s9 s10 wr4 => s9 = .bool false ∧ s10 = .int .i64 1 ∧ W = wr4)
            case atStart => exact ⟨rfl, rfl, rfl⟩
            case round =>
              obtain ⟨rfl, rfl, rfl⟩ := hrel
              obtain ⟨bi, oi, ki, hsi, cai, cfi, roi, boi⟩ := hgX.at (i := 0) (by simp)
              have cei := (roi.2.2 0 x rfl).1
              simp only [Nat.add_zero, List.getElem_cons_zero, List.length_cons] at cai cfi cei
              replace hgX := Lib.hid hgX
              go_wp2_with fail
              refine (Sign_any x _).mono ?_
              rintro e w' ⟨rfl, rfl⟩
              rw [Int.sign_eq_one_of_pos hx]
              go_wp2_with fail
              go_loopg [143] 0 (fun _ s1 wr5 => s1 = .int .i64 0 ∧ W = wr5)
              case atStart => exact ⟨rfl, rfl⟩
              case round =>
                obtain ⟨rfl, rfl⟩ := hrel
                go_wp2_with fail
                go_roundg 0
                case measure => omega
                case rel => exact ⟨1, by go_num, by go_num, rfl, hgX, hfX⟩
    · obtain rfl : d = 1 := by omega
      by_cases hn1 : 1 < n
      all_goals
        first
        | have hdn : decide (1 < n) = true := decide_eq_true hn1
        | have hdn : decide (1 < n) = false := decide_eq_false hn1
        go_wp2_with fail
        go_ret
        exact ⟨rfl, hfx1, hg1.out⟩
end Go.Proofs.YtphjfalibnnohaaGreatDoor
