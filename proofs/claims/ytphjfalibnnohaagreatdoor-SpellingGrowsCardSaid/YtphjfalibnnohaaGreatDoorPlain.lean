/- The plain side of notations: NotOk and the list of spellings out of names and rows alone; the plans. -/
import Derived.Test.YtphjfalibnnohaaGreatDoorMake
import Derived.Test.YtphjfalibnnohaaGreatDoorEnh
namespace Go.Proofs.YtphjfalibnnohaaGreatDoor
open Go.RowKit Go.Lib

/-- a right notation, of names and rows -/
structure NotOkP (d : Nat) (Ns As : List (ByteArray × List Int)) : Prop where
  n1 : 0 < Ns.length
  n60 : Ns.length ≤ 60
  a6 : As.length ≤ 6
  d12 : d ≤ 12
  row : ∀ x, x ∈ Ns ++ As → x.2.length = d
  fit : ∀ x, x ∈ Ns ++ As → ∀ y, y ∈ x.2 → fitB y = true
  nm : ∀ x, x ∈ Ns ++ As → isName x.1 = true
  dis : ∀ (i j : Nat) (x y : ByteArray × List Int), (Ns ++ As)[i]? = some x → (Ns ++ As)[j]? = some y → i < j → x.1 ≠ y.1
theorem NotOkP.ok {d : Nat} {Ns As : List (ByteArray × List Int)} {N A : List Sy} (h : NotOkP d Ns As) (hN : N.map plainSy = Ns) (hA : A.map plainSy = As) : NotOk d N A := by
  have hc : (N ++ A).map plainSy = Ns ++ As := by rw [List.map_append, hN, hA]
  have hm : ∀ x, x ∈ N ++ A → plainSy x ∈ Ns ++ As := fun x hx => by rw [← hc]; exact List.mem_map_of_mem hx
  refine ⟨by have := h.n1; rw [← hN, List.length_map] at this; exact this, by have := h.n60; rw [← hN, List.length_map] at this; exact this, by have := h.a6; rw [← hA, List.length_map] at this; exact this, h.d12, fun x hx => h.row _ (hm x hx), fun x hx => h.fit _ (hm x hx), fun x hx => h.nm _ (hm x hx), fun i j x y hx hy hij => ?_⟩
  refine h.dis i j (plainSy x) (plainSy y) ?_ ?_ hij
  · rw [← hc, List.getElem?_map, hx]; rfl
  · rw [← hc, List.getElem?_map, hy]; rfl

/-- the sums, of rows alone -/
def sumR (Nr Ar : List (List Int)) (s : Nat × List Int) : List Int := sumL ((Nr[s.1]?).getD []) s.2 Ar
def allR (Nr Ar : List (List Int)) (R : List Int) (m : Nat) : List (Nat × List Int) := sortS ((boxL m Ar.length Nr.length).filter fun s => decide (sumR Nr Ar s = R))
theorem sumS_R (N A : List Sy) (s : Nat × List Int) : sumS N A s = sumR (N.map Sy.row) (A.map Sy.row) s := by
  unfold sumS sumR rowOf; rw [List.getElem?_map]
theorem allL_R (N A : List Sy) (R : List Int) (m : Nat) : allL N A R m = allR (N.map Sy.row) (A.map Sy.row) R m := by
  unfold allL allR
  rw [List.length_map, List.length_map]
  congr 1
  exact List.filter_congr (fun s _ => by rw [sumS_R])
theorem row_plain (N : List Sy) : N.map Sy.row = (N.map plainSy).map (·.2) := by rw [List.map_map]; rfl

/-- the law: what is within the lesser bound -/
theorem allR_grows (Nr Ar : List (List Int)) (R : List Int) (m : Nat) : (allR Nr Ar R (m + 1)).filter (fun s => inB m s.2) = allR Nr Ar R m := by
  unfold allR
  rw [sortS_filter, List.filter_filter]
  have e : ∀ s : Nat × List Int, (inB m s.2 && decide (sumR Nr Ar s = R)) = (decide (sumR Nr Ar s = R) && inB m s.2) := fun s => Bool.and_comm _ _
  simp only [e]
  rw [← List.filter_filter, boxL_filter]
theorem allR_mem {Nr Ar : List (List Int)} {R : List Int} {m : Nat} {s : Nat × List Int} (h : s ∈ allR Nr Ar R m) : s.1 < Nr.length ∧ s.2.length = Ar.length ∧ (∀ c, c ∈ s.2 → -(m : Int) ≤ c ∧ c ≤ m) ∧ sumR Nr Ar s = R := by
  unfold allR at h
  have h1 := (sortS_perm _).mem_iff.1 h
  obtain ⟨h2, h3⟩ := List.mem_filter.1 h1
  obtain ⟨a, b, c⟩ := boxL_mem h2
  exact ⟨a, b, c, of_decide_eq_true h3⟩
theorem allR_size (Nr Ar : List (List Int)) (R : List Int) (m : Nat) : (allR Nr Ar R m).length ≤ Nr.length * (2 * m + 1) ^ Ar.length := by
  unfold allR
  rw [(sortS_perm _).length_eq, ← boxL_size]
  exact List.length_filter_le _ _

/-! ### the plans -/
theorem symsMk_length (two : Bool) (rs : List Int) (a b : Nat) : (symsMk two rs a b).length = b - a := by unfold symsMk; simp
theorem symsMk_get (two : Bool) (rs : List Int) (a b i : Nat) (x : ByteArray × List Int) (h : (symsMk two rs a b)[i]? = some x) : a + i < b ∧ x = symMk two rs (a + i) := by
  unfold symsMk at h
  rw [List.getElem?_map, List.getElem?_drop] at h
  cases e : (List.range b)[a + i]? with
  | none => rw [e] at h; simp at h
  | some k =>
    rw [e] at h
    obtain ⟨h1, h2⟩ := List.getElem?_eq_some_iff.1 e
    simp at h2
    subst h2
    injection h with h
    exact ⟨by simpa using h1, h.symm⟩
theorem nmOf_ok : ∀ i, i < 7 → isName (nmOf i) = true
  | 0, _ => by decide
  | 1, _ => by decide
  | 2, _ => by decide
  | 3, _ => by decide
  | 4, _ => by decide
  | 5, _ => by decide
  | 6, _ => by decide
def nmB (i : Nat) : Nat := ((nmOf i).data[0]!).toNat
theorem nmOf_inj : ∀ i j, i < j → j < 7 → nmOf i ≠ nmOf j := fun i j hij hj e => by
  have h : nmB i = nmB j := by unfold nmB; rw [e]
  have key : ∀ j, j < 7 → ∀ i, i < j → nmB i ≠ nmB j := by decide
  exact key j hj i hij h
def dMk (two : Bool) : Nat := if two then 2 else 1
theorem rowMk_length (two : Bool) (rs : List Int) (i : Nat) : (rowMk two rs i).length = dMk two := by unfold rowMk dMk; cases two <;> rfl
theorem rowMk_fit (two : Bool) (rs : List Int) (i : Nat) : ∀ y, y ∈ rowMk two rs i → fitB y = true := fun y hy => by
  unfold rowMk at hy
  have key : ∀ a : Int, fitB (a.tmod 8) = true := fun a => by have := tmod8 (x := a); unfold fitB; exact decide_eq_true (by omega)
  rcases List.mem_cons.1 hy with rfl | hy
  · exact key _
  · cases two with
    | false => simp at hy
    | true => simp at hy; subst hy; exact key _
theorem plan_ok (two : Bool) (rs : List Int) (ln la : Nat) (h1 : 1 ≤ ln) (h2 : ln ≤ 4) (h3 : la ≤ 7) : NotOkP (dMk two) (symsMk two rs 0 ln) (symsMk two rs 4 la) := by
  have hg : ∀ (i : Nat) (x : ByteArray × List Int), (symsMk two rs 0 ln ++ symsMk two rs 4 la)[i]? = some x → ∃ k, k < 7 ∧ x = symMk two rs k ∧ k = (if i < ln then i else 4 + (i - ln)) := fun i x hx => by
    by_cases hi : i < ln
    · rw [List.getElem?_append_left (by rw [symsMk_length]; omega)] at hx
      obtain ⟨a, b⟩ := symsMk_get two rs 0 ln i x hx
      exact ⟨i, by omega, by rw [b, Nat.zero_add], by rw [if_pos hi]⟩
    · rw [List.getElem?_append_right (by rw [symsMk_length]; omega), symsMk_length] at hx
      obtain ⟨a, b⟩ := symsMk_get two rs 4 la _ x hx
      exact ⟨4 + (i - ln), by omega, by rw [b]; congr 1, by rw [if_neg hi]⟩
  have hm : ∀ x, x ∈ symsMk two rs 0 ln ++ symsMk two rs 4 la → ∃ k, k < 7 ∧ x = symMk two rs k := fun x hx => by
    obtain ⟨i, hi⟩ := List.getElem?_of_mem hx
    obtain ⟨k, a, b, _⟩ := hg i x hi
    exact ⟨k, a, b⟩
  refine ⟨by rw [symsMk_length]; omega, by rw [symsMk_length]; omega, by rw [symsMk_length]; omega, by unfold dMk; cases two <;> decide, fun x hx => ?_, fun x hx => ?_, fun x hx => ?_, fun i j x y hx hy hij => ?_⟩
  · obtain ⟨k, a, rfl⟩ := hm x hx; exact rowMk_length two rs k
  · obtain ⟨k, a, rfl⟩ := hm x hx; exact rowMk_fit two rs k
  · obtain ⟨k, a, rfl⟩ := hm x hx; exact nmOf_ok k a
  · obtain ⟨k, a, rfl, e⟩ := hg i x hx
    obtain ⟨l, b, rfl, f⟩ := hg j y hy
    refine nmOf_inj k l ?_ b
    rw [e, f]
    have hjj : j < ln + (la - 4) := by
      have := (List.getElem?_eq_some_iff.1 hy).1
      rw [List.length_append, symsMk_length, symsMk_length] at this
      omega
    by_cases c1 : i < ln <;> by_cases c2 : j < ln
    · rw [if_pos c1, if_pos c2]; exact hij
    · rw [if_pos c1, if_neg c2]; omega
    · omega
    · rw [if_neg c1, if_neg c2]; omega
end Go.Proofs.YtphjfalibnnohaaGreatDoor
