/- slices.Clone at a row. -/
import Derived.Test.YtphjfalibnnohaaGreatDoorSmall
import Derived.Shelf.SlicesE.Clone
namespace Go.Proofs.YtphjfalibnnohaaGreatDoor
open Go.RowKit Go.Lib Go.Shelf
def layClone_row_ren : Go.Shelf.Ren := ⟨fun | 41 => 46 | n => n, fun | 22 => 33 | 23 => 3 | 4 => 4 | n => n, fun | n => n⟩
theorem layClone_row : Go.Proofs.SlLaysE0.n41 Tryz.prog layClone_row_ren := {
  mixed := by kernel_rfl
  f41 := ⟨Tryz.f46.name, by decide, Tryz.func46.trans (congrArg some (by kernel_rfl))⟩
  t4 := Tryz.underlying4
  a4 := Tryz.isAgg4
  z4 := Tryz.sizeOf4
  v4 := Tryz.zeroValue4
  t22 := Tryz.underlying33
  a22 := Tryz.isAgg33
  z22 := Tryz.sizeOf33
  v22 := Tryz.zeroValue33 }
def layClone_ints_ren : Go.Shelf.Ren := ⟨fun | 41 => 74 | n => n, fun | 22 => 32 | 23 => 3 | 4 => 4 | n => n, fun | n => n⟩
theorem layClone_ints : Go.Proofs.SlLaysE0.n41 Tryz.prog layClone_ints_ren := {
  mixed := by kernel_rfl
  f41 := ⟨Tryz.f74.name, by decide, Tryz.func74.trans (congrArg some (by kernel_rfl))⟩
  t4 := Tryz.underlying4
  a4 := Tryz.isAgg4
  z4 := Tryz.sizeOf4
  v4 := Tryz.zeroValue4
  t22 := Tryz.underlying32
  a22 := Tryz.isAgg32
  z22 := Tryz.sizeOf32
  v22 := Tryz.zeroValue32 }

def RowRetN (w : World) (xs : List Int) (e : Ending) (w' : World) : Prop := ∃ g c, e = .returned (.slice (some ⟨g, 0, none⟩) xs.length c) ∧ Fr w w' ∧ w'.ownsRow w.heap.size 3 1 (.slice (some ⟨g, 0, none⟩) xs.length c) xs.length (xs.map iv)

set_option maxRecDepth 100000 in
theorem Clone_row (b o c : Nat) (xs : List Int) (w : World) (hl : xs.length ≤ 1000000) (hc : ∀ (j : Nat) (x : Int), xs[j]? = some x → w.cell? ⟨b, o + j, none⟩ = some (iv x)) :
    Calls Tryz.prog 46 #[.slice (some ⟨b, o, none⟩) xs.length c] w (RowRetN w xs) := by
  obtain ⟨i0, hi, hz0, hz1, hz2⟩ := info_parts infoInt
  refine (AnyE.slices_Clone layClone_row i0 _ 1 8 hi hz0 hz1 hz2 rfl (by decide) Tryz.sizeOf3 b o xs.length c (xs.map iv) w (by simp) (by unfold maxLen; omega) (by omega) (fun j u h => ?_) (fun u h => ?_)).mono ?_
  · rw [List.getElem?_map] at h
    cases hx : xs[j]? with
    | none => rw [hx] at h; simp at h
    | some x => rw [hx] at h; injection h with h; rw [← h]; exact hc j x hx
  · obtain ⟨x, -, rfl⟩ := List.mem_map.1 h; rfl
  · rintro e w' ⟨v', rfl, hown, hne, hb⟩
    have h2 := hown.2
    rcases h2 with ⟨h0, -⟩ | ⟨g, cap, _, hv, _⟩
    · exact absurd h0 hne
    · subst hv
      exact ⟨g, cap, rfl, hb, hown⟩
set_option maxRecDepth 100000 in
theorem Clone_ints (b o c : Nat) (xs : List Int) (w : World) (hl : xs.length ≤ 1000000) (hc : ∀ (j : Nat) (x : Int), xs[j]? = some x → w.cell? ⟨b, o + j, none⟩ = some (iv x)) :
    Calls Tryz.prog 74 #[.slice (some ⟨b, o, none⟩) xs.length c] w (RowRetN w xs) := by
  obtain ⟨i0, hi, hz0, hz1, hz2⟩ := info_parts infoInt
  refine (AnyE.slices_Clone layClone_ints i0 _ 1 8 hi hz0 hz1 hz2 rfl (by decide) Tryz.sizeOf3 b o xs.length c (xs.map iv) w (by simp) (by unfold maxLen; omega) (by omega) (fun j u h => ?_) (fun u h => ?_)).mono ?_
  · rw [List.getElem?_map] at h
    cases hx : xs[j]? with
    | none => rw [hx] at h; simp at h
    | some x => rw [hx] at h; injection h with h; rw [← h]; exact hc j x hx
  · obtain ⟨x, -, rfl⟩ := List.mem_map.1 h; rfl
  · rintro e w' ⟨v', rfl, hown, hne, hb⟩
    have h2 := hown.2
    rcases h2 with ⟨h0, -⟩ | ⟨g, cap, _, hv, _⟩
    · exact absurd h0 hne
    · subst hv
      exact ⟨g, cap, rfl, hb, hown⟩
end Go.Proofs.YtphjfalibnnohaaGreatDoor
