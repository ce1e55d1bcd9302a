/- Slices that read as lists; predicates handed over as functions; IndexFunc, ContainsFunc, Equal, Clone at rows. -/
import Derived.Test.YtphjfalibnnohaaGreatDoorWhole
import Derived.LoopTactic
namespace Go.Proofs.YtphjfalibnnohaaGreatDoor
open Go.RowKit Go.Lib

/-- the cells of a slice with the address a read as xs (one cell an element) -/
def El {α : Type} (w : World) (enc : α → Value) (a : Option Addr) (xs : List α) : Prop :=
  xs = [] ∨ ∃ b o, a = some ⟨b, o, none⟩ ∧ b < w.heap.size ∧ ∀ i x, xs[i]? = some x → w.cell? ⟨b, o + i, none⟩ = some (enc x)

theorem El.fr {α : Type} {w w' : World} {enc : α → Value} {a : Option Addr} {xs : List α} (h : El w enc a xs) (k : Fr w w') : El w' enc a xs := by
  rcases h with h | ⟨b, o, ha, hb, hc⟩
  · exact .inl h
  · exact .inr ⟨b, o, ha, Nat.lt_of_lt_of_le hb k.size, fun i x hx => by rw [k.cell hb]; exact hc i x hx⟩

/-- what stands at a place -/
theorem El.at {α : Type} {w : World} {enc : α → Value} {a : Option Addr} {xs : List α} (h : El w enc a xs) {i : Nat} (hi : i < xs.length) :
    ∃ b o x, a = some ⟨b, o, none⟩ ∧ b < w.heap.size ∧ xs[i]? = some x ∧ w.cell? ⟨b, o + i, none⟩ = some (enc x) := by
  rcases h with h | ⟨b, o, ha, hb, hc⟩
  · subst h; simp at hi
  · exact ⟨b, o, xs[i], ha, hb, List.getElem?_eq_getElem hi, hc i _ (List.getElem?_eq_getElem hi)⟩

abbrev iv : Int → Value := fun n => .int .i64 n
abbrev sv : Int → Value := fun n => .string (tx n)

/-- a function that says yes or no of a value, in any later world -/
def Pred {α : Type} (w : World) (g : Nat) (cap : Array Value) (enc : α → Value) (p : α → Bool) (xs : List α) : Prop :=
  ∀ x W, x ∈ xs → Fr w W → Calls Tryz.prog g (#[enc x] ++ cap) W fun e W' => e = .returned (.bool (p x)) ∧ Fr W W'

/-- the place of the first that p holds of, or -1 -/
def idx {α : Type} (p : α → Bool) (xs : List α) : Int := match xs.findIdx? p with | some i => i | none => -1

theorem idx_step {α : Type} {p : α → Bool} {xs : List α} {k : Nat} {x : α} (h : ∀ j x, j < k → xs[j]? = some x → p x = false) (hx : xs[k]? = some x) (hp : p x = false) :
    Hid (∀ j x, j < k + 1 → xs[j]? = some x → p x = false) := fun j y hj hy => by
  by_cases e : j = k
  · subst e; rw [hx] at hy; injection hy with hy; rw [← hy]; exact hp
  · exact h j y (by omega) hy
theorem idx_found {α : Type} {p : α → Bool} {xs : List α} {k : Nat} {x : α} (h : ∀ j x, j < k → xs[j]? = some x → p x = false) (hx : xs[k]? = some x) (hp : p x = true) : idx p xs = k := by
  unfold idx
  have hk : k < xs.length := (List.getElem?_eq_some_iff.1 hx).1
  have : xs.findIdx? p = some k := by
    rw [List.findIdx?_eq_some_iff_getElem]
    refine ⟨hk, ?_, fun j hj => ?_⟩
    · rw [(List.getElem?_eq_some_iff.1 hx).2]; exact hp
    · rw [h j _ hj (List.getElem?_eq_getElem (by omega))]; simp
  rw [this]
theorem idx_none {α : Type} {p : α → Bool} {xs : List α} (h : ∀ j x, j < xs.length → xs[j]? = some x → p x = false) : idx p xs = -1 := by
  unfold idx
  have : xs.findIdx? p = none := by
    rw [List.findIdx?_eq_none_iff]
    intro x hx
    obtain ⟨i, hi, e⟩ := List.getElem_of_mem hx
    exact h i x hi (by rw [List.getElem?_eq_getElem hi, e])
  rw [this]
theorem idx_any {α : Type} (p : α → Bool) (xs : List α) : decide (0 ≤ idx p xs) = xs.any p := by
  unfold idx
  cases e : xs.findIdx? p with
  | none =>
    rw [List.findIdx?_eq_none_iff] at e
    have : xs.any p = false := List.any_eq_false.2 (fun x hx => by simp [e x hx])
    rw [this]; rfl
  | some i =>
    obtain ⟨h, hp, _⟩ := List.findIdx?_eq_some_iff_getElem.1 e
    have : xs.any p = true := List.any_eq_true.2 ⟨xs[i], List.getElem_mem h, hp⟩
    rw [this]; simp

theorem idx_cases {α : Type} (p : α → Bool) (xs : List α) : (idx p xs = -1 ∧ ∀ x, x ∈ xs → p x = false) ∨ ∃ (k : Nat) (x : α), idx p xs = k ∧ xs[k]? = some x ∧ p x = true ∧ ∀ j y, j < k → xs[j]? = some y → p y = false := by
  unfold idx
  cases e : xs.findIdx? p with
  | none =>
    rw [List.findIdx?_eq_none_iff] at e
    exact .inl ⟨rfl, e⟩
  | some i =>
    obtain ⟨h, hp, hq⟩ := List.findIdx?_eq_some_iff_getElem.1 e
    refine .inr ⟨i, xs[i], rfl, List.getElem?_eq_getElem h, hp, fun j y hj hy => ?_⟩
    have := hq j hj
    obtain ⟨h2, rfl⟩ := List.getElem?_eq_some_iff.1 hy
    simpa using this

set_option maxHeartbeats 400000 in
theorem IndexFunc_row (xs : List Int) (a : Option Addr) (cap : Nat) (g : Nat) (lb : Array Value) (p : Int → Bool) (w : World)
    (eg : ∀ args w, (callFunc g args).run Tryz.prog w = .ok (.enter g args) w) (hx : El w iv a xs) (hl : xs.length ≤ 1000000000) (hp : Pred w g lb iv p xs) :
    Calls Tryz.prog 40 #[.slice a xs.length cap, .func (.func g) #[] lb] w fun e w' => e = .returned (.int .i64 (idx p xs)) ∧ Fr w w' := by
  go_enter Tryz.func40, Tryz.ntmps40
  go_wp2
  go_loopw [5, 8] (fun _ s8 wr => ∃ k : Nat, s8 = .int .i64 k ∧ k ≤ xs.length ∧ Fr w wr ∧ Hid (∀ j x, j < k → xs[j]? = some x → p x = false)) (fun _ s8 _ => xs.length - (RowKit.intOf s8).toNat)
  case atStart => exact ⟨0, rfl, Nat.zero_le _, Fr.refl _, fun j x h => absurd h (Nat.not_lt_zero _)⟩
  case round =>
    obtain ⟨k, rfl, hk, hf, hb⟩ := hrel
    by_cases hlt : k < xs.length
    · obtain ⟨b, o, x, rfl, hbl, hxk, hcell⟩ := (hx.fr hf).at hlt
      have hpx := hp x wr (List.mem_of_getElem? hxk) hf
      have hxk := Lib.hid hxk
      go_wp2_with fail
      refine hpx.mono ?_
      rintro e w1 ⟨rfl, hf1⟩
      go_wp2_with fail
      · have hpt : p x = true := by assumption
        go_ret
        exact ⟨ret_int (idx_found hb.out hxk.out hpt).symm, hf.trans hf1⟩
      · have hpf : p x = false := by assumption
        go_roundw
        case rel => exact ⟨k + 1, by go_num, by omega, hf.trans hf1, idx_step hb.out hxk.out hpf⟩
        case measure => simp [RowKit.intOf]; omega
    · go_wp2_with fail
      go_ret
      exact ⟨ret_int (idx_none (by rw [show xs.length = k by omega]; exact hb.out)).symm, hf⟩
set_option maxHeartbeats 400000 in
theorem IndexFunc_txs (xs : List Int) (a : Option Addr) (cap : Nat) (g : Nat) (lb : Array Value) (p : Int → Bool) (w : World)
    (eg : ∀ args w, (callFunc g args).run Tryz.prog w = .ok (.enter g args) w) (hx : El w sv a xs) (hl : xs.length ≤ 1000000000) (hp : Pred w g lb sv p xs) :
    Calls Tryz.prog 85 #[.slice a xs.length cap, .func (.func g) #[] lb] w fun e w' => e = .returned (.int .i64 (idx p xs)) ∧ Fr w w' := by
  go_enter Tryz.func85, Tryz.ntmps85
  go_wp2
  go_loopw [5, 8] (fun _ s8 wr => ∃ k : Nat, s8 = .int .i64 k ∧ k ≤ xs.length ∧ Fr w wr ∧ Hid (∀ j x, j < k → xs[j]? = some x → p x = false)) (fun _ s8 _ => xs.length - (RowKit.intOf s8).toNat)
  case atStart => exact ⟨0, rfl, Nat.zero_le _, Fr.refl _, fun j x h => absurd h (Nat.not_lt_zero _)⟩
  case round =>
    obtain ⟨k, rfl, hk, hf, hb⟩ := hrel
    by_cases hlt : k < xs.length
    · obtain ⟨b, o, x, rfl, hbl, hxk, hcell⟩ := (hx.fr hf).at hlt
      have hpx := hp x wr (List.mem_of_getElem? hxk) hf
      have hxk := Lib.hid hxk
      go_wp2_with fail
      refine hpx.mono ?_
      rintro e w1 ⟨rfl, hf1⟩
      go_wp2_with fail
      · have hpt : p x = true := by assumption
        go_ret
        exact ⟨ret_int (idx_found hb.out hxk.out hpt).symm, hf.trans hf1⟩
      · have hpf : p x = false := by assumption
        go_roundw
        case rel => exact ⟨k + 1, by go_num, by omega, hf.trans hf1, idx_step hb.out hxk.out hpf⟩
        case measure => simp [RowKit.intOf]; omega
    · go_wp2_with fail
      go_ret
      exact ⟨ret_int (idx_none (by rw [show xs.length = k by omega]; exact hb.out)).symm, hf⟩
theorem ContainsFunc_row (xs : List Int) (a : Option Addr) (cap : Nat) (g : Nat) (lb : Array Value) (p : Int → Bool) (w : World)
    (eg : ∀ args w, (callFunc g args).run Tryz.prog w = .ok (.enter g args) w) (hx : El w iv a xs) (hl : xs.length ≤ 1000000000) (hp : Pred w g lb iv p xs) :
    Calls Tryz.prog 12 #[.slice a xs.length cap, .func (.func g) #[] lb] w fun e w' => e = .returned (.bool (xs.any p)) ∧ Fr w w' := by
  rw [← idx_any]
  have hc := IndexFunc_row xs a cap g lb p w eg hx hl hp
  clear hp
  go_enter Tryz.func12, Tryz.ntmps12
  go_wp2_with fail
  refine hc.mono ?_
  rintro e w' ⟨rfl, hf⟩
  go_wp2_with fail
  go_ret
  exact ⟨rfl, hf⟩
end Go.Proofs.YtphjfalibnnohaaGreatDoor
