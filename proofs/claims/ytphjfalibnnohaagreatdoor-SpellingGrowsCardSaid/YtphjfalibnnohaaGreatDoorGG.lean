/- Grids that grow: rows of integer texts, appended one after another to a slice of the call's own. -/
import Derived.Test.YtphjfalibnnohaaGreatDoorHerm2
import Derived.Deep.AppendLies
import Derived.Maps.AppendAt
namespace Go.Proofs.YtphjfalibnnohaaGreatDoor
open Go.RowKit Go.Lib

theorem Fx.of_grown {w w' : World} {row : Option Nat} (h : w.grownBy w' row) : Fx (fun k => row = some k) w w' :=
  ⟨h.os, h.tape, h.output, h.size, fun k hk hp => h.block k hk (fun e => hp e.symm)⟩

theorem ownsRow_fx {w w' : World} {p : Nat → Prop} {base : Nat} {e : TypeId} {size : Nat} {v : Value} {n : Nat} {xs : List Value} (h : w.ownsRow base e size v n xs) (k : Fx p w w') (hp : ∀ g, v.ownBlock = some g → ¬ p g) : w'.ownsRow base e size v n xs := by
  obtain ⟨h1, h2⟩ := h
  refine ⟨h1, ?_⟩
  rcases h2 with h2 | ⟨g, cap, cur, rfl, hg, hh, r⟩
  · exact .inl h2
  · have hlt : g < w.heap.size := by
      by_cases hl : g < w.heap.size
      · exact hl
      · rw [Array.getElem?_eq_none (by omega)] at hh; simp at hh
    exact .inr ⟨g, cap, cur, rfl, hg, by rw [k.block g hlt (hp g rfl)]; exact hh, r⟩
theorem ownsRow_fr {w w' : World} {base : Nat} {e : TypeId} {size : Nat} {v : Value} {n : Nat} {xs : List Value} (h : w.ownsRow base e size v n xs) (k : Fr w w') : w'.ownsRow base e size v n xs :=
  ownsRow_fx (p := fun _ => False) h (Fx.of_fr k) (fun _ _ e => e)

theorem cell_one_newN (w : World) (x : Value) (t : TypeId) (n : Nat) (hn : w.heap.size = n) : ∀ j u, [x][j]? = some u → (w.alloc (.cells #[x] t)).cell? ((⟨n, 0, none⟩ : Addr).add j) = some u := by
  subst hn; exact cell_one_new w x t
theorem new_cell (w : World) (x : Value) (t : TypeId) : (w.alloc (.cells #[x] t)).cell? ⟨w.heap.size, 0, none⟩ = some x := cell_one_new w x t 0 x rfl

theorem ownsRow_some {w : World} {base : Nat} {e : TypeId} {size : Nat} {g n m cap : Nat} {xs : List Value} (h : w.ownsRow base e size (.slice (some ⟨g, 0, none⟩) n cap) m xs) :
    n = m ∧ base ≤ g ∧ g < w.heap.size ∧ n ≤ cap ∧ ∀ j u, xs[j]? = some u → w.cell? ⟨g, j, none⟩ = some u ∧ w.frozen? ⟨g, j, none⟩ = false := by
  obtain ⟨h1, h2⟩ := h
  rcases h2 with ⟨h2, _⟩ | ⟨g', cap', cur, hv, hg, hh, hn, hc, hs, ht⟩
  · cases h2
  · injection hv with hv1 hv2 hv3
    injection hv1 with hv1; injection hv1 with hv1
    subst hv1; subst hv2; subst hv3
    have hlt : g < w.heap.size := by
      by_cases hl : g < w.heap.size
      · exact hl
      · rw [Array.getElem?_eq_none (by omega)] at hh; simp at hh
    refine ⟨rfl, hg, hlt, hn, fun j u hu => ?_⟩
    have hju : cur[j]? = some u := by
      rw [← ht, List.getElem?_take] at hu
      split at hu
      · simpa using hu
      · simp at hu
    exact ⟨by simp [World.cell?, hh, hju], by simp [World.frozen?, hh]⟩

/-- a row of integer texts that the call has made -/
theorem ownsRow_own {w : World} {base : Nat} {e : TypeId} {g n m cap : Nat} {xs : List Int} (hb : gN ≤ base) (h : w.ownsRow base e 1 (.slice (some ⟨g, 0, none⟩) n cap) m (xs.map sv)) : Own w g 0 xs ∧ n = m ∧ m = xs.length ∧ base ≤ g ∧ n ≤ cap := by
  have h1 := h.1
  obtain ⟨a, b, c, d, f⟩ := ownsRow_some h
  refine ⟨⟨by omega, c, fun j x hx => ?_⟩, a, by simpa using h1.symm, b, d⟩
  have := f j (sv x) (by rw [List.getElem?_map, hx]; rfl)
  simpa using this

theorem ownsRow_pos {w : World} {base : Nat} {e : TypeId} {size : Nat} {v : Value} {n : Nat} {xs : List Value} (h : w.ownsRow base e size v n xs) (hn : 0 < n) : ∃ g cap, v = .slice (some ⟨g, 0, none⟩) n cap := by
  obtain ⟨_, h2⟩ := h
  rcases h2 with ⟨_, h2⟩ | ⟨g, cap, _, hv, _⟩
  · omega
  · exact ⟨g, cap, hv⟩

def hdr (h : Nat × Nat × Nat) (xs : List Int) : Value := .slice (some ⟨h.1, h.2.1, none⟩) xs.length h.2.2
def hdrs (hs : List (Nat × Nat × Nat)) (g : List (List Int)) : List Value := List.zipWith hdr hs g

structure GG (w : World) (base : Nat) (E : TypeId) (v : Value) (hs : List (Nat × Nat × Nat)) (g : List (List Int)) : Prop where
  gbase : gN ≤ base
  len : hs.length = g.length
  own : w.ownsRow base E 1 v g.length (hdrs hs g)
  row : ∀ (i : Nat) (h : Nat × Nat × Nat) (xs : List Int), hs[i]? = some h → g[i]? = some xs → Own w h.1 h.2.1 xs ∧ v.ownBlock ≠ some h.1
  apart : ∀ (i j : Nat) (hi hj : Nat × Nat × Nat), hs[i]? = some hi → hs[j]? = some hj → i ≠ j → hi.1 ≠ hj.1

theorem GG.nil (w : World) (base : Nat) (E : TypeId) (h : gN ≤ base) : GG w base E (.slice none 0 0) [] [] :=
  ⟨h, rfl, World.ownsRow_nil _ _ _ _, fun i h xs h1 => by simp at h1, fun i j hi hj h1 => by simp at h1⟩
theorem GG.fr {w w' : World} {base : Nat} {E : TypeId} {v : Value} {hs : List (Nat × Nat × Nat)} {g : List (List Int)} (h : GG w base E v hs g) (k : Fr w w') : GG w' base E v hs g :=
  ⟨h.gbase, h.len, ownsRow_fr h.own k, fun i hd xs h1 h2 => ⟨(h.row i hd xs h1 h2).1.fr k, (h.row i hd xs h1 h2).2⟩, h.apart⟩
theorem GG.lt {w : World} {base : Nat} {E : TypeId} {v : Value} {hs : List (Nat × Nat × Nat)} {g : List (List Int)} (h : GG w base E v hs g) : ∀ hd, hd ∈ hs → hd.1 < w.heap.size := fun hd hm => by
  obtain ⟨i, hi⟩ := List.getElem?_of_mem hm
  have hl : i < g.length := by rw [← h.len]; exact (List.getElem?_eq_some_iff.1 hi).1
  exact (h.row i hd _ hi (List.getElem?_eq_getElem hl)).1.2.1
theorem hdrs_push (hs : List (Nat × Nat × Nat)) (g : List (List Int)) (h : Nat × Nat × Nat) (xs : List Int) (hl : hs.length = g.length) : hdrs (hs ++ [h]) (g ++ [xs]) = hdrs hs g ++ [hdr h xs] := by
  unfold hdrs; rw [List.zipWith_append hl]; rfl

/-- behind an append of a row's header -/
theorem GG.push {w w' : World} {base : Nat} {E : TypeId} {v : Value} {hs : List (Nat × Nat × Nat)} {g : List (List Int)} (h : GG w base E v hs g) {hd : Nat × Nat × Nat} {xs : List Int} (ho : Own w hd.1 hd.2.1 xs)
    (hne : ∀ h', h' ∈ hs → h'.1 ≠ hd.1) (hv : v.ownBlock ≠ some hd.1) {gb cap : Nat} (hown : w'.ownsRow base E 1 (.slice (some ⟨gb, 0, none⟩) (g.length + 1) cap) (g.length + 1) (hdrs hs g ++ [hdr hd xs]))
    (hg : w.grownBy w' v.ownBlock) (hat : v.ownBlock = some gb ∨ w.heap.size ≤ gb) : GG w' base E (.slice (some ⟨gb, 0, none⟩) (g.length + 1) cap) (hs ++ [hd]) (g ++ [xs]) := by
  have hfx := Fx.of_grown hg
  have hrow : ∀ (i : Nat) (h0 : Nat × Nat × Nat) (ys : List Int), hs[i]? = some h0 → g[i]? = some ys → Own w' h0.1 h0.2.1 ys ∧ gb ≠ h0.1 := fun i h0 ys h1 h2 => by
    obtain ⟨a, b⟩ := h.row i h0 ys h1 h2
    refine ⟨a.fx hfx (fun e => b e), ?_⟩
    rcases hat with e | e
    · intro e2; rw [e2] at e; exact b e
    · have := a.2.1; omega
  refine ⟨h.gbase, by simp [h.len], ?_, fun i h0 ys h1 h2 => ?_, fun i j hi hj h1 h2 hij => ?_⟩
  · rw [hdrs_push _ _ _ _ h.len]; simpa using hown
  · by_cases hi : i < g.length
    · rw [List.getElem?_append_left (by rw [h.len]; exact hi)] at h1
      rw [List.getElem?_append_left hi] at h2
      obtain ⟨a, b⟩ := hrow i h0 ys h1 h2
      exact ⟨a, fun e => by injection e with e; exact b e⟩
    · rw [List.getElem?_append_right (by omega)] at h2
      rw [List.getElem?_append_right (by rw [h.len]; omega)] at h1
      rw [List.getElem?_singleton] at h1 h2
      split at h1
      · split at h2
        · injection h1 with h1; injection h2 with h2; subst h1; subst h2
          refine ⟨ho.fx hfx (fun e => hv e), fun e => ?_⟩
          injection e with e
          rcases hat with e2 | e2
          · have e3 : gb = hd.1 := e
            rw [e3] at e2; exact hv e2
          · have := ho.2.1
            have e3 : gb = hd.1 := e
            omega
        · simp at h2
      · simp at h1
  · have key : ∀ (i : Nat) (h0 : Nat × Nat × Nat), (hs ++ [hd])[i]? = some h0 → (i < hs.length ∧ hs[i]? = some h0) ∨ (i = hs.length ∧ h0 = hd) := fun i h0 h => by
      by_cases hi : i < hs.length
      · rw [List.getElem?_append_left hi] at h; exact .inl ⟨hi, h⟩
      · rw [List.getElem?_append_right (by omega), List.getElem?_singleton] at h
        split at h
        · injection h with h; exact .inr ⟨by omega, h.symm⟩
        · simp at h
    rcases key i hi h1 with ⟨a1, a2⟩ | ⟨a1, a2⟩ <;> rcases key j hj h2 with ⟨b1, b2⟩ | ⟨b1, b2⟩
    · exact h.apart i j _ _ a2 b2 hij
    · subst b2; exact hne _ (List.mem_of_getElem? a2)
    · subst a2; exact (hne _ (List.mem_of_getElem? b2)).symm
    · omega

theorem GG.pushN {w w' : World} {base : Nat} {E : TypeId} {v u : Value} {hs : List (Nat × Nat × Nat)} {g : List (List Int)} (h : GG w base E v hs g) {hd : Nat × Nat × Nat} {xs : List Int} (ho : Own w hd.1 hd.2.1 xs)
    (hne : ∀ h', h' ∈ hs → h'.1 ≠ hd.1) (hv : v.ownBlock ≠ some hd.1) {gb cap n : Nat} (hn : g.length = n) (hu : u = hdr hd xs) (hown : w'.ownsRow base E 1 (.slice (some ⟨gb, 0, none⟩) (n + 1) cap) (n + 1) (hdrs hs g ++ [u]))
    (hg : w.grownBy w' v.ownBlock) (hat : v.ownBlock = some gb ∨ w.heap.size ≤ gb) : GG w' base E (.slice (some ⟨gb, 0, none⟩) (n + 1) cap) (hs ++ [hd]) (g ++ [xs]) := by
  subst hn; subst hu
  exact h.push ho hne hv hown hg hat

theorem GG.grid {w : World} {base : Nat} {E : TypeId} {gb n cap : Nat} {hs : List (Nat × Nat × Nat)} {g : List (List Int)} (h : GG w base E (.slice (some ⟨gb, 0, none⟩) n cap) hs g) : GridIs w gb 0 hs g ∧ n = g.length ∧ base ≤ gb ∧ n ≤ cap := by
  obtain ⟨a, b, c, d, f⟩ := ownsRow_some h.own
  refine ⟨⟨h.len, c, Nat.le_trans h.gbase b, fun i hd xs h1 h2 => ?_, fun i hd xs h1 h2 => ?_, h.apart⟩, a, b, d⟩
  · have := f i (hdr hd xs) (by unfold hdrs; rw [List.getElem?_zipWith, h1, h2])
    simpa [hdr] using this
  · obtain ⟨p, q⟩ := h.row i hd xs h1 h2
    exact ⟨p, fun e => q (by simp [Value.ownBlock, e])⟩

theorem ownsRow_mono {w : World} {base base' : Nat} {e : TypeId} {size : Nat} {v : Value} {n : Nat} {xs : List Value} (h : w.ownsRow base e size v n xs) (hb : base' ≤ base) : w.ownsRow base' e size v n xs := by
  obtain ⟨h1, h2⟩ := h
  refine ⟨h1, ?_⟩
  rcases h2 with h2 | ⟨g, cap, cur, hv, hg, r⟩
  · exact .inl h2
  · exact .inr ⟨g, cap, cur, hv, Nat.le_trans hb hg, r⟩

/-- rows that lie at the head of a block of their own, and can be appended to -/
def Rows0 (w : World) (hs : List (Nat × Nat × Nat)) (g : List (List Int)) : Prop :=
  ∀ (i : Nat) (h : Nat × Nat × Nat) (xs : List Int), hs[i]? = some h → g[i]? = some xs → h.2.1 = 0 ∧ w.ownsRow gN 65 1 (.slice (some ⟨h.1, 0, none⟩) xs.length h.2.2) xs.length (xs.map sv)
theorem Rows0.nil (w : World) : Rows0 w [] [] := fun i h xs h1 => by simp at h1
theorem Rows0.fx {w w' : World} {p : Nat → Prop} {hs : List (Nat × Nat × Nat)} {g : List (List Int)} (h : Rows0 w hs g) (k : Fx p w w') (hp : ∀ hd, hd ∈ hs → ¬ p hd.1) : Rows0 w' hs g := fun i hd xs h1 h2 => by
  obtain ⟨a, b⟩ := h i hd xs h1 h2
  refine ⟨a, ownsRow_fx b k (fun g hg => ?_)⟩
  have e : hd.1 = g := by simpa [Value.ownBlock] using hg
  rw [← e]
  exact hp hd (List.mem_of_getElem? h1)
theorem Rows0.fr {w w' : World} {hs : List (Nat × Nat × Nat)} {g : List (List Int)} (h : Rows0 w hs g) (k : Fr w w') : Rows0 w' hs g :=
  h.fx (p := fun _ => False) (Fx.of_fr k) (fun _ _ e => e)
theorem Rows0.push {w : World} {hs : List (Nat × Nat × Nat)} {g : List (List Int)} (h : Rows0 w hs g) (hl : hs.length = g.length) {hd : Nat × Nat × Nat} {xs : List Int} (h0 : hd.2.1 = 0)
    (ho : w.ownsRow gN 65 1 (.slice (some ⟨hd.1, 0, none⟩) xs.length hd.2.2) xs.length (xs.map sv)) : Rows0 w (hs ++ [hd]) (g ++ [xs]) := fun i h1 ys k1 k2 => by
  by_cases hi : i < g.length
  · rw [List.getElem?_append_left (by rw [hl]; exact hi)] at k1
    rw [List.getElem?_append_left hi] at k2
    exact h i h1 ys k1 k2
  · rw [List.getElem?_append_right (by omega), List.getElem?_singleton] at k2
    rw [List.getElem?_append_right (by rw [hl]; omega), List.getElem?_singleton] at k1
    split at k1
    · split at k2
      · injection k1 with k1; injection k2 with k2; subst k1; subst k2; exact ⟨h0, ho⟩
      · simp at k2
    · simp at k1

/-- a row gets another place -/
theorem GridIs.setHead {w w1 : World} {ob oo : Nat} {hs : List (Nat × Nat × Nat)} {g : List (List Int)} (h : GridIs w ob oo hs g) {i : Nat} {hd hd' : Nat × Nat × Nat} {xs' : List Int} (hi : hs[i]? = some hd)
    (hf : Fx (· = hd.1) w w1) (ho : Own w1 hd'.1 hd'.2.1 xs') (hat : hd'.1 = hd.1 ∨ w.heap.size ≤ hd'.1) :
    GridIs (w1.setCell ⟨ob, oo + i, none⟩ (hdr hd' xs')) ob oo (hs.set i hd') (g.set i xs') := by
  have hl : i < g.length := by rw [← h.len]; exact (List.getElem?_eq_some_iff.1 hi).1
  have hii := List.getElem?_eq_getElem hl
  have hc := h.cell i _ _ hi hii
  have hr := h.row i _ _ hi hii
  have hcw1 : w1.cell? ⟨ob, oo + i, none⟩ = _ := hf.keep hc.1 (fun e => hr.2 e.symm)
  have hs2 : Fx (· = ob) w1 (w1.setCell ⟨ob, oo + i, none⟩ (hdr hd' xs')) := Fx.setCell (p := (· = ob)) (q := ⟨ob, oo + i, none⟩) (Fx.refl _ w1) (.inl rfl) _
  have hne' : hd'.1 ≠ ob := by
    rcases hat with e | e
    · rw [e]; exact hr.2
    · have := h.outer; omega
  refine ⟨by simp [h.len], Nat.lt_of_lt_of_le h.outer (Nat.le_trans hf.size hs2.size), h.gob, fun j k ys k1 k2 => ?_, fun j k ys k1 k2 => ?_, fun a b ha hb k1 k2 hab => ?_⟩
  · rw [List.getElem?_set] at k1 k2
    rw [World.frozen?_setCell]
    by_cases e : i = j
    · subst e
      rw [if_pos rfl, if_pos hl] at k2
      rw [if_pos rfl, if_pos (by rw [h.len]; exact hl)] at k1
      injection k1 with k1; injection k2 with k2; subst k1; subst k2
      exact ⟨World.cell?_setCell_same' _ _ _ (by rw [hcw1]; rfl), hf.keepf hc.1 hc.2 (fun e => hr.2 e.symm)⟩
    · rw [if_neg e] at k1 k2
      have e3 : (⟨ob, oo + i, none⟩ : Addr) ≠ ⟨ob, oo + j, none⟩ := fun e2 => by injection e2 with _ e2; omega
      have h3 := h.cell j k ys k1 k2
      rw [World.cell?_setCell_other _ _ _ _ e3]
      exact ⟨hf.keep h3.1 (fun e => hr.2 e.symm), hf.keepf h3.1 h3.2 (fun e => hr.2 e.symm)⟩
  · rw [List.getElem?_set] at k1 k2
    by_cases e : i = j
    · subst e
      rw [if_pos rfl, if_pos hl] at k2
      rw [if_pos rfl, if_pos (by rw [h.len]; exact hl)] at k1
      injection k1 with k1; injection k2 with k2; subst k1; subst k2
      exact ⟨ho.fx hs2 hne', hne'⟩
    · rw [if_neg e] at k1 k2
      have h3 := h.row j k ys k1 k2
      exact ⟨(h3.1.fx hf (h.apart j i _ _ k1 hi (fun e2 => e e2.symm))).fx hs2 h3.2, h3.2⟩
  · have key : ∀ (j : Nat) (k : Nat × Nat × Nat), (hs.set i hd')[j]? = some k → (j = i ∧ k = hd') ∨ (j ≠ i ∧ hs[j]? = some k) := fun j k hk => by
      rw [List.getElem?_set] at hk
      by_cases e : i = j
      · subst e
        rw [if_pos rfl, if_pos (by rw [h.len]; exact hl)] at hk
        injection hk with hk; exact .inl ⟨rfl, hk.symm⟩
      · rw [if_neg e] at hk; exact .inr ⟨fun e2 => e e2.symm, hk⟩
    have far : ∀ (j : Nat) (k : Nat × Nat × Nat), j ≠ i → hs[j]? = some k → k.1 ≠ hd'.1 := fun j k hj hk => by
      rcases hat with e | e
      · rw [e]; exact h.apart j i _ _ hk hi hj
      · have hjl : j < g.length := by rw [← h.len]; exact (List.getElem?_eq_some_iff.1 hk).1
        have := (h.row j k _ hk (List.getElem?_eq_getElem hjl)).1.2.1
        omega
    rcases key a ha k1 with ⟨a1, a2⟩ | ⟨a1, a2⟩ <;> rcases key b hb k2 with ⟨b1, b2⟩ | ⟨b1, b2⟩
    · omega
    · subst a2; exact (far b hb b1 b2).symm
    · subst b2; exact far a ha a1 a2
    · exact h.apart a b _ _ a2 b2 hab
end Go.Proofs.YtphjfalibnnohaaGreatDoor
