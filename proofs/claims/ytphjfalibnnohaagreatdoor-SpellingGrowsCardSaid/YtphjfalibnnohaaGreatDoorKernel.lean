/- smith.Kernel. -/
import Derived.Test.YtphjfalibnnohaaGreatDoorSmall
namespace Go.Proofs.YtphjfalibnnohaaGreatDoor
open Go.RowKit Go.Lib
attribute [local go_sem ↓] Go.wp_at_zero Go.wp_at_succ

def fitG (g : List (List Int)) : Bool := g.all fun r => r.all fitB
/-- multiples of the rows of a matrix that has some, whose sum is zero -/
def kerS (F n : Nat) (m : List (List Int)) : Option (List (List Int)) :=
  (herm F (n + m.length) 0 (wideM m) 0).bind fun r => if fitG (kerTo n (r.1.take r.2)) then some (kerTo n (r.1.take r.2)) else none

theorem fit_sm {x : Int} (h : fitB x = true) : Sm x := by
  unfold fitB at h; have h := of_decide_eq_true h; exact ⟨by omega, by omega⟩

set_option maxHeartbeats 4000000 in
theorem Kernel_any (m K : List (List Int)) (a : Option Addr) (cap n F : Nat) (w : World) (hG : G w) (hm : MatIs w a m) (hok : TabOk n m) (hn : 1 ≤ n) (hl : 1 ≤ m.length) (hk : kerS F n m = some K) :
    Calls Tryz.prog 66 #[.slice a m.length cap] w (MatRet w K) := by
  obtain ⟨⟨gF, tF⟩, hh, hk2⟩ := Option.bind_eq_some_iff.1 hk
  simp only at hk2
  split at hk2
  · rename_i hfit
    injection hk2 with hk2
    have hkl : K.length ≤ gF.length := by
      rw [← hk2]; unfold kerTo; rw [List.length_map]; exact Nat.le_trans (List.length_filter_le _ _) (by rw [List.length_take]; omega)
    have hkr : ∀ r, r ∈ K → ∃ l, l ∈ gF ∧ r = l.drop n := fun r hr => by
      rw [← hk2] at hr
      obtain ⟨l, hl1, hl2⟩ := List.mem_map.1 hr
      exact ⟨l, List.mem_of_mem_take (List.mem_filter.1 hl1).1, hl2.symm⟩
    have hfb : ∀ r, r ∈ K → ∀ x, x ∈ r → fitB x = true := fun r hr x hx => by
      rw [← hk2] at hr
      exact List.all_eq_true.1 (List.all_eq_true.1 hfit r hr) x hx
    have htab := tabCheck_ok m a cap n w hm hok
    have hwide := fun W hW => wide_any m gF a cap n F tF W (hG.fr hW) (hm.fr hW) hok.2.2.1 hn (by have := hok.2.1; omega) hl (by have := hok.1; omega) (fun r hr x hx => fit_sm (hok.2.2.2 r hr x hx)) hh
    have hl12 := hok.1
    have hn12 := hok.2.1
    have hG1 := Lib.hid hG
    have hk3 := Lib.hid hk2
    have hkl := Lib.hid hkl
    have hkr := Lib.hid hkr
    have hfb := Lib.hid hfb
    have hwide := Lib.hid hwide
    clear hm hok hk hk2 hfit hG hh
    rename_i q1 q2 q3 q4
    clear q1 q2 q3 q4
    go_enter Tryz.func66, Tryz.ntmps66
    go_wp2_with fail
    refine htab.mono ?_
    clear htab
    rintro e w1 ⟨rfl, hf1⟩
    go_wp2_with fail
    refine (hwide.out w1 hf1).mono ?_
    rintro e w2 ⟨ob, oc, hs, rfl, hg, hcap, hr, ht, hgl, hf2⟩
    replace hg := Lib.hid hg
    replace hcap := Lib.hid hcap
    replace hr := Lib.hid hr
    go_wp2_with fail
    refine (kernel_any ob oc tF n (n + m.length) hs gF w2 (hG1.out.fr (hf1.trans hf2)) hg.out hr.out (by omega) (by omega) (by omega) ht hcap.out).mono ?_
    rintro e w3 ⟨v, hO, rfl, hgg, hf3⟩
    rw [hk3.out] at hgg
    obtain ⟨a9, c9, rfl, -⟩ := ownsRow_slice hgg.own
    replace hgg := Lib.hid hgg
    have hfw := (hf1.trans hf2).trans hf3
    go_wp2_with fail
    refine (small_any _ _ a9 c9 hO K w3 (hG1.out.fr hfw) hgg.out (by have := hkl.out; omega) (fun r hr9 => by obtain ⟨l, hl1, hl2⟩ := hkr.out r hr9; rw [hl2, List.length_drop, hr.out l hl1]; omega) hfb.out).mono ?_
    rintro e w4 ⟨a5, c5, rfl, hm5, hf4⟩
    replace hm5 := Lib.hid hm5
    go_wp2_with fail
    go_ret2
    exact ⟨a5, c5, rfl, hm5.out, hfw.trans hf4⟩
  · simp at hk2
end Go.Proofs.YtphjfalibnnohaaGreatDoor
