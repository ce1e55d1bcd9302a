/- smith.kernel, small, Kernel; table.Check. -/
import Derived.Test.YtphjfalibnnohaaGreatDoorWide
namespace Go.Proofs.YtphjfalibnnohaaGreatDoor
open Go.RowKit Go.Lib
attribute [local go_sem ↓] Go.wp_at_zero Go.wp_at_succ

/-- the right parts of the rows whose left part is zero -/
def kerTo (n : Nat) (g : List (List Int)) : List (List Int) := (g.filter (fun l => decide ((n : Int) ≤ leadS l))).map (·.drop n)
theorem kerTo_snoc (n : Nat) (g : List (List Int)) (l : List Int) : kerTo n (g ++ [l]) = kerTo n g ++ if (n : Int) ≤ leadS l then [l.drop n] else [] := by
  unfold kerTo
  rw [List.filter_append, List.map_append]
  by_cases h : (n : Int) ≤ leadS l <;> simp [h]

theorem Own.el {w : World} {b o : Nat} {xs : List Int} (h : Own w b o xs) : El w sv (some ⟨b, o, none⟩) xs :=
  .inr ⟨b, o, rfl, h.2.1, fun i x hx => (h.2.2 i x hx).1⟩
theorem Own.drop {w : World} {b o : Nat} {xs : List Int} (h : Own w b o xs) (n : Nat) : Own w b (o + n) (xs.drop n) :=
  ⟨h.1, h.2.1, fun j x hx => by rw [List.getElem?_drop] at hx; have := h.2.2 (n + j) x hx; rw [show o + n + j = o + (n + j) by omega]; exact this⟩

def KerPost (w : World) (g : List (List Int)) (e : Ending) (w' : World) : Prop := ∃ v hs, e = .returned v ∧ GG w' w.heap.size 56 v hs g ∧ Fr w w'

set_option maxHeartbeats 4000000 in
theorem kernel_any (ob oc tF n n1 : Nat) (hs : List (Nat × Nat × Nat)) (g : List (List Int)) (w : World) (hG : G w) (hg : GridIs w ob 0 hs g) (hr : Rect n1 g) (hn : n < n1) (hn1 : n1 ≤ 1000000) (hl : g.length ≤ 1000000) (ht : tF ≤ g.length) (hcap : ∀ h, h ∈ hs → n1 ≤ h.2.2) :
    Calls Tryz.prog 92 #[.slice (some ⟨ob, 0, none⟩) tF oc, .int .i64 n] w (KerPost w (kerTo n (g.take tF))) := by
  have hgn := gN_le hG
  obtain ⟨i1, ji, jz0, jz1, jz2⟩ := info_parts info56
  replace hg := Lib.hid hg
  replace hr := Lib.hid hr
  replace hcap := Lib.hid hcap
  clear hG
  go_enter Tryz.func92, Tryz.ntmps92
  go_wp2_with fail
  go_loopg [5, 10] tF (fun k s5 s10 wr => ∃ (j : Nat) (hO : List (Nat × Nat × Nat)), s10 = .int .i64 j ∧ j + k = tF ∧ Fr w wr ∧ GG wr w.heap.size 56 s5 hO (kerTo n (g.take j)) ∧ Hid (∀ h, h ∈ hO → ∃ (i : Nat) (h' : Nat × Nat × Nat), i < j ∧ hs[i]? = some h' ∧ h'.1 = h.1))
  case atStart => exact ⟨0, [], rfl, by omega, Fr.refl _, GG.nil _ _ _ hgn, fun h hm => by simp at hm⟩
  case round =>
    obtain ⟨j, hO, rfl, hjk, hf, hgg, hfrom⟩ := hrel
    by_cases hlt : j < tF
    · have hjl : j < g.length := by omega
      obtain ⟨b1, o1, k1, e1, ca1, cf1, ro1, bo1⟩ := (hg.out.fr hf).at hjl
      have hrl := hr.out.row hjl
      rw [Nat.zero_add] at ca1
      have hsn := take_snoc (List.getElem?_eq_getElem hjl)
      have hk1 := hcap.out _ (List.mem_of_getElem? e1)
      have hlead := lead_any g[j] (some ⟨b1, o1, none⟩) k1
      generalize hgj : g[j] = row at *
      rw [hrl] at ca1 hlead
      have hks := kerTo_snoc n (g.take j) row
      rw [← hsn] at hks
      replace hgj := Lib.hid hgj
      replace hsn := Lib.hid hsn
      replace hfrom := Lib.hid hfrom
      replace hgg := Lib.hid hgg
      replace e1 := Lib.hid e1
      replace ro1 := Lib.hid ro1
      replace hrl := Lib.hid hrl
      have zt : (j : Int) < (tF : Int) := by omega
      by_cases hle : (n : Int) ≤ leadS row
      · rw [if_pos hle] at hks
        have hdl : decide ((n : Int) ≤ leadS row) = true := decide_eq_true hle
        replace hks := Lib.hid hks
        go_wp2_with fail
        refine (hlead _ ro1.out.el (by omega)).mono ?_
        clear hlead
        rintro e w2 ⟨rfl, hf2⟩
        have hln : (kerTo n (g.take j)).length ≤ j := by
          unfold kerTo; rw [List.length_map]; exact Nat.le_trans (List.length_filter_le _ _) (by rw [List.length_take]; omega)
        have hgg2 := hgg.out.fr hf2
        have hne1 : ∀ h, h ∈ hO → h.1 ≠ b1 := fun h hm e9 => by
          obtain ⟨i9, h9, hi9, q1, q2⟩ := hfrom.out h hm
          exact hg.out.apart i9 j _ _ q1 e1.out (by omega) (by rw [q2, e9])
        have hbl : b1 < w.heap.size := (hg.out.row j _ _ e1.out (List.getElem?_eq_getElem hjl)).1.2.1
        have hne2 : u5.ownBlock ≠ some b1 := fun e9 => by have := (hgg2.own.lt b1 e9).1; omega
        obtain ⟨L, hL⟩ : ∃ L, L = (kerTo n (g.take j)).length := ⟨_, rfl⟩
        have hown3 := hgg2.own
        rw [← hL] at hown3 hln
        replace hL := Lib.hid hL
        replace hgg2 := Lib.hid hgg2
        have hnk : ¬ k1 = n := by omega
        have hz9 := (hf.trans hf2).size
        go_wp2_with (at_builtin; refine wpList_append_lies _ rfl _ _ 136 (by rfl) _ 56 _ _ 1 24 Tryz.underlying136 ji jz0 jz1 jz2 rfl (by decide) _ L _ (by rfl) (World.ownsRow.alloc hown3 _) ⟨w2.heap.size, 0, none⟩ 1 1 [.slice (some ⟨b1, o1 + n, none⟩) (n1 - n) (k1 - n)] (by rfl) rfl (cell_one_newN _ _ _ _ (by simp)) (by simp [Value.oneCell']) (by decide) (by unfold maxLen; omega) (by omega) (by skip; simp; omega) (w2.heap.size + 1) (by simp) ?_; intro gA capA wA hownA hgrowA hatA hltA)
        have hpush := (hgg2.out.fr ((Fr.refl w2).alloc _)).pushN (hd := (b1, o1 + n, k1 - n)) (xs := row.drop n) (((ro1.out.drop n).fr hf2).fr ((Fr.refl w2).alloc _)) hne1 hne2 hL.out.symm (by unfold hdr; rw [List.length_drop, hrl.out]) hownA hgrowA (hatA.imp id (fun e => by rw [e]; simp))
        rw [← hks.out] at hpush
        have hfrA : Fr w wA := (((hf.trans hf2).alloc _)).grown hgrowA (fun k e => (hgg2.out.own.lt k e).1)
        go_roundg (gk - 1)
        case measure => omega
        case rel =>
          refine ⟨j + 1, _, by go_num, by omega, hfrA, hpush, fun h hm => ?_⟩
          rcases List.mem_append.1 hm with h1 | h1
          · obtain ⟨i9, h9, hi9, q1, q2⟩ := hfrom.out h h1; exact ⟨i9, h9, by omega, q1, q2⟩
          · simp at h1; subst h1; exact ⟨j, _, by omega, e1.out, rfl⟩
      · rw [if_neg hle, List.append_nil] at hks
        replace hks := Lib.hid hks
        have hle2 : leadS row < (n : Int) := by omega
        have hdl : decide ((n : Int) ≤ leadS row) = false := decide_eq_false hle
        clear hle
        go_wp2_with fail
        refine (hlead _ ro1.out.el (by omega)).mono ?_
        clear hlead
        rintro e w2 ⟨rfl, hf2⟩
        go_wp2_with fail
        go_roundg (gk - 1)
        case measure => omega
        case rel => exact ⟨j + 1, hO, by go_num, by omega, hf.trans hf2, by rw [hks.out]; exact hgg.out.fr hf2, fun h hm => by obtain ⟨i9, h9, hi9, q1, q2⟩ := hfrom.out h hm; exact ⟨i9, h9, by omega, q1, q2⟩⟩
    · have hd : decide (j < tF) = false := decide_eq_false hlt
      obtain rfl : j = tF := by omega
      go_wp2_with fail
      go_ret
      exact ⟨_, hO, rfl, hgg, hf⟩
end Go.Proofs.YtphjfalibnnohaaGreatDoor
