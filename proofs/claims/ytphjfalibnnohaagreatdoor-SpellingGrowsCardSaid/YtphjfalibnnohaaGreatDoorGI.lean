/- The same for rows of ints. -/
import Derived.Test.YtphjfalibnnohaaGreatDoorKer2
namespace Go.Proofs.YtphjfalibnnohaaGreatDoor
open Go.RowKit Go.Lib

/-- a row of ints that the call has made -/
def OwnI (w : World) (b o : Nat) (xs : List Int) : Prop :=
  gN ≤ b ∧ b < w.heap.size ∧ ∀ j x, xs[j]? = some x → w.cell? ⟨b, o + j, none⟩ = some (iv x) ∧ w.frozen? ⟨b, o + j, none⟩ = false
theorem OwnI.fx {p : Nat → Prop} {w w' : World} {b o : Nat} {xs : List Int} (h : OwnI w b o xs) (k : Fx p w w') (hp : ¬ p b) : OwnI w' b o xs :=
  ⟨h.1, Nat.lt_of_lt_of_le h.2.1 k.size, fun j x hx => by rw [k.cell h.2.1 hp, k.frozen h.2.1 hp]; exact h.2.2 j x hx⟩
theorem OwnI.fr {w w' : World} {b o : Nat} {xs : List Int} (h : OwnI w b o xs) (k : Fr w w') : OwnI w' b o xs :=
  h.fx (p := fun _ => False) (Fx.of_fr k) (fun e => e)
theorem OwnI.el {w : World} {b o : Nat} {xs : List Int} (h : OwnI w b o xs) : El w iv (some ⟨b, o, none⟩) xs :=
  .inr ⟨b, o, rfl, h.2.1, fun i x hx => (h.2.2 i x hx).1⟩
/-- a row of integer texts that the call has made -/
theorem ownsRow_ownI {w : World} {base : Nat} {e : TypeId} {g n m cap : Nat} {xs : List Int} (hb : gN ≤ base) (h : w.ownsRow base e 1 (.slice (some ⟨g, 0, none⟩) n cap) m (xs.map iv)) : OwnI w g 0 xs ∧ n = m ∧ m = xs.length ∧ base ≤ g ∧ n ≤ cap := by
  have h1 := h.1
  obtain ⟨a, b, c, d, f⟩ := ownsRow_some h
  refine ⟨⟨by omega, c, fun j x hx => ?_⟩, a, by simpa using h1.symm, b, d⟩
  have := f j (iv x) (by rw [List.getElem?_map, hx]; rfl)
  simpa using this

structure GI (w : World) (base : Nat) (E : TypeId) (v : Value) (hs : List (Nat × Nat × Nat)) (g : List (List Int)) : Prop where
  gbase : gN ≤ base
  len : hs.length = g.length
  own : w.ownsRow base E 1 v g.length (hdrs hs g)
  row : ∀ (i : Nat) (h : Nat × Nat × Nat) (xs : List Int), hs[i]? = some h → g[i]? = some xs → OwnI w h.1 h.2.1 xs ∧ v.ownBlock ≠ some h.1
  apart : ∀ (i j : Nat) (hi hj : Nat × Nat × Nat), hs[i]? = some hi → hs[j]? = some hj → i ≠ j → hi.1 ≠ hj.1

theorem GI.nil (w : World) (base : Nat) (E : TypeId) (h : gN ≤ base) : GI w base E (.slice none 0 0) [] [] :=
  ⟨h, rfl, World.ownsRow_nil _ _ _ _, fun i h xs h1 => by simp at h1, fun i j hi hj h1 => by simp at h1⟩
theorem GI.fr {w w' : World} {base : Nat} {E : TypeId} {v : Value} {hs : List (Nat × Nat × Nat)} {g : List (List Int)} (h : GI w base E v hs g) (k : Fr w w') : GI w' base E v hs g :=
  ⟨h.gbase, h.len, ownsRow_fr h.own k, fun i hd xs h1 h2 => ⟨(h.row i hd xs h1 h2).1.fr k, (h.row i hd xs h1 h2).2⟩, h.apart⟩
theorem GI.lt {w : World} {base : Nat} {E : TypeId} {v : Value} {hs : List (Nat × Nat × Nat)} {g : List (List Int)} (h : GI w base E v hs g) : ∀ hd, hd ∈ hs → hd.1 < w.heap.size := fun hd hm => by
  obtain ⟨i, hi⟩ := List.getElem?_of_mem hm
  have hl : i < g.length := by rw [← h.len]; exact (List.getElem?_eq_some_iff.1 hi).1
  exact (h.row i hd _ hi (List.getElem?_eq_getElem hl)).1.2.1
/-- behind an append of a row's header -/
theorem GI.push {w w' : World} {base : Nat} {E : TypeId} {v : Value} {hs : List (Nat × Nat × Nat)} {g : List (List Int)} (h : GI w base E v hs g) {hd : Nat × Nat × Nat} {xs : List Int} (ho : OwnI w hd.1 hd.2.1 xs)
    (hne : ∀ h', h' ∈ hs → h'.1 ≠ hd.1) (hv : v.ownBlock ≠ some hd.1) {gb cap : Nat} (hown : w'.ownsRow base E 1 (.slice (some ⟨gb, 0, none⟩) (g.length + 1) cap) (g.length + 1) (hdrs hs g ++ [hdr hd xs]))
    (hg : w.grownBy w' v.ownBlock) (hat : v.ownBlock = some gb ∨ w.heap.size ≤ gb) : GI w' base E (.slice (some ⟨gb, 0, none⟩) (g.length + 1) cap) (hs ++ [hd]) (g ++ [xs]) := by
  have hfx := Fx.of_grown hg
  have hrow : ∀ (i : Nat) (h0 : Nat × Nat × Nat) (ys : List Int), hs[i]? = some h0 → g[i]? = some ys → OwnI w' h0.1 h0.2.1 ys ∧ gb ≠ h0.1 := fun i h0 ys h1 h2 => by
    obtain ⟨a, b⟩ := h.row i h0 ys h1 h2
    refine ⟨a.fx hfx (fun e => b e), ?_⟩
    rcases hat with e | e
    · intro e2; rw [e2] at e; exact b e
    · have := a.2.1; omega
  refine ⟨h.gbase, by simp [h.len], ?_, fun i h0 ys h1 h2 => ?_, fun i j hi hj h1 h2 hij => ?_⟩
  · rw [hdrs_push _ _ _ _ h.len]; simpa using hown
  · by_cases hi : i < g.length
    · rw [List.getElem?_append_left (by rw [h.len]; exact hi)] at h1
      rw [List.getElem?_append_left hi] at h2
      obtain ⟨a, b⟩ := hrow i h0 ys h1 h2
      exact ⟨a, fun e => by injection e with e; exact b e⟩
    · rw [List.getElem?_append_right (by omega)] at h2
      rw [List.getElem?_append_right (by rw [h.len]; omega)] at h1
      rw [List.getElem?_singleton] at h1 h2
      split at h1
      · split at h2
        · injection h1 with h1; injection h2 with h2; subst h1; subst h2
          refine ⟨ho.fx hfx (fun e => hv e), fun e => ?_⟩
          injection e with e
          rcases hat with e2 | e2
          · have e3 : gb = hd.1 := e
            rw [e3] at e2; exact hv e2
          · have := ho.2.1
            have e3 : gb = hd.1 := e
            omega
        · simp at h2
      · simp at h1
  · have key : ∀ (i : Nat) (h0 : Nat × Nat × Nat), (hs ++ [hd])[i]? = some h0 → (i < hs.length ∧ hs[i]? = some h0) ∨ (i = hs.length ∧ h0 = hd) := fun i h0 h => by
      by_cases hi : i < hs.length
      · rw [List.getElem?_append_left hi] at h; exact .inl ⟨hi, h⟩
      · rw [List.getElem?_append_right (by omega), List.getElem?_singleton] at h
        split at h
        · injection h with h; exact .inr ⟨by omega, h.symm⟩
        · simp at h
    rcases key i hi h1 with ⟨a1, a2⟩ | ⟨a1, a2⟩ <;> rcases key j hj h2 with ⟨b1, b2⟩ | ⟨b1, b2⟩
    · exact h.apart i j _ _ a2 b2 hij
    · subst b2; exact hne _ (List.mem_of_getElem? a2)
    · subst a2; exact (hne _ (List.mem_of_getElem? b2)).symm
    · omega

theorem GI.pushN {w w' : World} {base : Nat} {E : TypeId} {v u : Value} {hs : List (Nat × Nat × Nat)} {g : List (List Int)} (h : GI w base E v hs g) {hd : Nat × Nat × Nat} {xs : List Int} (ho : OwnI w hd.1 hd.2.1 xs)
    (hne : ∀ h', h' ∈ hs → h'.1 ≠ hd.1) (hv : v.ownBlock ≠ some hd.1) {gb cap n : Nat} (hn : g.length = n) (hu : u = hdr hd xs) (hown : w'.ownsRow base E 1 (.slice (some ⟨gb, 0, none⟩) (n + 1) cap) (n + 1) (hdrs hs g ++ [u]))
    (hg : w.grownBy w' v.ownBlock) (hat : v.ownBlock = some gb ∨ w.heap.size ≤ gb) : GI w' base E (.slice (some ⟨gb, 0, none⟩) (n + 1) cap) (hs ++ [hd]) (g ++ [xs]) := by
  subst hn; subst hu
  exact h.push ho hne hv hown hg hat


theorem ownsRow_slice {w : World} {base : Nat} {e : TypeId} {size : Nat} {v : Value} {n : Nat} {xs : List Value} (h : w.ownsRow base e size v n xs) : ∃ a c, v = .slice a n c ∧ (n = 0 ∨ ∃ g, a = some ⟨g, 0, none⟩) := by
  obtain ⟨_, h2⟩ := h
  rcases h2 with ⟨hv, h2⟩ | ⟨g, cap, _, hv, _⟩
  · subst h2; exact ⟨none, 0, hv, .inl rfl⟩
  · exact ⟨_, cap, hv, .inr ⟨g, rfl⟩⟩

theorem GI.fx {w w' : World} {p : Nat → Prop} {base : Nat} {E : TypeId} {v : Value} {hs : List (Nat × Nat × Nat)} {g : List (List Int)} (h : GI w base E v hs g) (k : Fx p w w') (hp : ∀ b, v.ownBlock = some b → ¬ p b) (hr : ∀ hd, hd ∈ hs → ¬ p hd.1) : GI w' base E v hs g :=
  ⟨h.gbase, h.len, ownsRow_fx h.own k hp, fun i hd xs h1 h2 => ⟨(h.row i hd xs h1 h2).1.fx k (hr hd (List.mem_of_getElem? h1)), (h.row i hd xs h1 h2).2⟩, h.apart⟩

theorem GI.mat {w : World} {base n : Nat} {E : TypeId} {a : Option Addr} {c : Nat} {hs : List (Nat × Nat × Nat)} {g : List (List Int)} (h : GI w base E (.slice a n c) hs g) : MatIs w a g := by
  by_cases h0 : g.length = 0
  · exact .inl (List.eq_nil_of_length_eq_zero h0)
  · obtain ⟨gb, cp, hv⟩ := ownsRow_pos h.own (by omega)
    injection hv with hv1 hv2 hv3
    subst hv1; subst hv2; subst hv3
    obtain ⟨p1, p2, p3, p4, p5⟩ := ownsRow_some h.own
    refine .inr ⟨gb, 0, rfl, p3, fun i xs hx => ?_⟩
    have hl : i < hs.length := by rw [h.len]; exact (List.getElem?_eq_some_iff.1 hx).1
    have hi := List.getElem?_eq_getElem hl
    have hc := p5 i (hdr hs[i] xs) (by unfold hdrs; rw [List.getElem?_zipWith, hi, hx])
    exact ⟨_, _, by rw [Nat.zero_add]; exact hc.1, (h.row i _ _ hi hx).1.el⟩

theorem ownsRow_empty (w : World) (base : Nat) (e : TypeId) (size : Nat) (hb : base ≤ w.heap.size) : (w.alloc (.cells #[] e)).ownsRow base e size (.slice (some ⟨w.heap.size, 0, none⟩) 0 0) 0 [] :=
  ⟨by simp, .inr ⟨w.heap.size, 0, #[], rfl, hb, heap_alloc_new w _, Nat.le_refl _, by unfold maxLen; omega, by simp, by simp⟩⟩
end Go.Proofs.YtphjfalibnnohaaGreatDoor
