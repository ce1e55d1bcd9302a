/- smith.finish and smith.hermitian over grids of integer texts. -/
import Derived.Test.YtphjfalibnnohaaGreatDoorGrid
import Derived.Deep.LoopGhost
namespace Go.Proofs.YtphjfalibnnohaaGreatDoor
open Go.RowKit Go.Lib
attribute [local go_sem ↓] Go.wp_at_zero Go.wp_at_succ

theorem Fx.keep {p : Nat → Prop} {w w' : World} (h : Fx p w w') {q : Addr} {v : Value} (hc : w.cell? q = some v) (hp : ¬ p q.block) : w'.cell? q = some v := by
  rw [h.cell (World.block_lt_of_cell? w q hc) hp]; exact hc
theorem Fx.keepf {p : Nat → Prop} {w w' : World} (h : Fx p w w') {q : Addr} {v : Value} {b : Bool} (hc : w.cell? q = some v) (hf : w.frozen? q = b) (hp : ¬ p q.block) : w'.frozen? q = b := by
  rw [h.frozen (World.block_lt_of_cell? w q hc) hp]; exact hf

/-- a slice of rows that may be written: ob, oo: where the headers lie; hs: where each row lies (block, offset, capacity) -/
structure GridIs (w : World) (ob oo : Nat) (hs : List (Nat × Nat × Nat)) (g : List (List Int)) : Prop where
  len : hs.length = g.length
  outer : ob < w.heap.size
  gob : gN ≤ ob
  cell : ∀ (i : Nat) (h : Nat × Nat × Nat) (xs : List Int), hs[i]? = some h → g[i]? = some xs → w.cell? ⟨ob, oo + i, none⟩ = some (.slice (some ⟨h.1, h.2.1, none⟩) xs.length h.2.2) ∧ w.frozen? ⟨ob, oo + i, none⟩ = false
  row : ∀ (i : Nat) (h : Nat × Nat × Nat) (xs : List Int), hs[i]? = some h → g[i]? = some xs → Own w h.1 h.2.1 xs ∧ h.1 ≠ ob
  apart : ∀ (i j : Nat) (hi hj : Nat × Nat × Nat), hs[i]? = some hi → hs[j]? = some hj → i ≠ j → hi.1 ≠ hj.1

/-- the blocks of a grid -/
def gb (ob : Nat) (hs : List (Nat × Nat × Nat)) (k : Nat) : Prop := k = ob ∨ ∃ h, h ∈ hs ∧ h.1 = k

theorem GridIs.fx {p : Nat → Prop} {w w' : World} {ob oo : Nat} {hs : List (Nat × Nat × Nat)} {g : List (List Int)} (h : GridIs w ob oo hs g) (k : Fx p w w') (hp : ∀ j, gb ob hs j → ¬ p j) : GridIs w' ob oo hs g :=
  ⟨h.len, Nat.lt_of_lt_of_le h.outer k.size, h.gob,
   fun i hd xs h1 h2 => by
    have := h.cell i hd xs h1 h2
    exact ⟨k.keep this.1 (hp _ (.inl rfl)), k.keepf this.1 this.2 (hp _ (.inl rfl))⟩,
   fun i hd xs h1 h2 => by
    have := h.row i hd xs h1 h2
    exact ⟨this.1.fx k (hp _ (.inr ⟨hd, List.mem_of_getElem? h1, rfl⟩)), this.2⟩,
   h.apart⟩
theorem GridIs.fr {w w' : World} {ob oo : Nat} {hs : List (Nat × Nat × Nat)} {g : List (List Int)} (h : GridIs w ob oo hs g) (k : Fr w w') : GridIs w' ob oo hs g :=
  h.fx (p := fun _ => False) (Fx.of_fr k) (fun _ _ e => e)
theorem GridIs.ge {w : World} {ob oo : Nat} {hs : List (Nat × Nat × Nat)} {g : List (List Int)} (h : GridIs w ob oo hs g) : ∀ k, gb ob hs k → gN ≤ k := by
  rintro k (rfl | ⟨hd, hm, rfl⟩)
  · exact h.gob
  · obtain ⟨i, hi⟩ := List.getElem?_of_mem hm
    have hlt : i < g.length := by rw [← h.len]; exact (List.getElem?_eq_some_iff.1 hi).1
    exact (h.row i hd _ hi (List.getElem?_eq_getElem hlt)).1.1

theorem GridIs.at {w : World} {ob oo : Nat} {hs : List (Nat × Nat × Nat)} {g : List (List Int)} (h : GridIs w ob oo hs g) {i : Nat} (hi : i < g.length) :
    ∃ b o c, hs[i]? = some (b, o, c) ∧ w.cell? ⟨ob, oo + i, none⟩ = some (.slice (some ⟨b, o, none⟩) (g[i]).length c) ∧ w.frozen? ⟨ob, oo + i, none⟩ = false ∧ Own w b o g[i] ∧ b ≠ ob := by
  have hl : i < hs.length := by rw [h.len]; exact hi
  have h1 := List.getElem?_eq_getElem hl
  have h2 := List.getElem?_eq_getElem hi
  have h3 := h.cell i _ _ h1 h2
  have h4 := h.row i _ _ h1 h2
  exact ⟨hs[i].1, hs[i].2.1, hs[i].2.2, h1, h3.1, h3.2, h4.1, h4.2⟩

/-- one row is written -/
theorem GridIs.setRow {w w' : World} {ob oo : Nat} {hs : List (Nat × Nat × Nat)} {g : List (List Int)} (h : GridIs w ob oo hs g) {i b o c : Nat} (hi : hs[i]? = some (b, o, c)) {zs : List Int}
    (k : Fx (· = b) w w') (ho : Own w' b o zs) (hl : ∀ xs, g[i]? = some xs → zs.length = xs.length) : GridIs w' ob oo hs (g.set i zs) := by
  have hne : b ≠ ob := by
    have hlt : i < g.length := by rw [← h.len]; exact (List.getElem?_eq_some_iff.1 hi).1
    exact (h.row i _ _ hi (List.getElem?_eq_getElem hlt)).2
  refine ⟨by simp [h.len], Nat.lt_of_lt_of_le h.outer k.size, h.gob, fun j hd xs h1 h2 => ?_, fun j hd xs h1 h2 => ?_, h.apart⟩
  · have hj : j < g.length := by have := (List.getElem?_eq_some_iff.1 h2).1; simpa using this
    have h3 := h.cell j hd _ h1 (List.getElem?_eq_getElem hj)
    rw [List.getElem?_set] at h2
    have e : xs.length = (g[j]).length := by
      split at h2
      · rename_i e; subst e; rw [if_pos (by simpa using hj)] at h2; injection h2 with h2; subst h2; exact hl _ (List.getElem?_eq_getElem hj)
      · rw [List.getElem?_eq_getElem hj] at h2; injection h2 with h2; rw [h2]
    rw [e]
    exact ⟨k.keep h3.1 (fun e => hne e.symm), k.keepf h3.1 h3.2 (fun e => hne e.symm)⟩
  · have hj : j < g.length := by have := (List.getElem?_eq_some_iff.1 h2).1; simpa using this
    have h3 := h.row j hd _ h1 (List.getElem?_eq_getElem hj)
    rw [List.getElem?_set] at h2
    refine ⟨?_, h3.2⟩
    split at h2
    · rename_i e; subst e
      rw [if_pos (by simpa using hj)] at h2; injection h2 with h2; subst h2
      rw [hi] at h1; injection h1 with h1; subst h1
      exact ho
    · rename_i e
      rw [List.getElem?_eq_getElem hj] at h2; injection h2 with h2; subst h2
      exact h3.1.fx k (fun e2 => h.apart i j _ _ hi h1 e e2.symm)

theorem GridIs.setRowF {w W w' : World} {ob oo : Nat} {hs : List (Nat × Nat × Nat)} {g : List (List Int)} (h : GridIs w ob oo hs g) {i b o c : Nat} (hi : hs[i]? = some (b, o, c)) {zs : List Int}
    (k : Fx (· = b) W w') (ho : Own w' b o zs) (hl : ∀ xs, g[i]? = some xs → zs.length = xs.length) (hf : Fr w W) : GridIs w' ob oo hs (g.set i zs) :=
  (h.fr hf).setRow hi k ho hl
theorem Fx.via {p q : Nat → Prop} {a b c d : World} (h : Fx p a b) (k : Fx q c d) (hq : ∀ j, q j → p j) (hf : Fr b c) : Fx p a d := (h.fr hf).trans (k.mono hq)
theorem gb_mem {ob : Nat} {hs : List (Nat × Nat × Nat)} {i b o c : Nat} (hi : hs[i]? = some (b, o, c)) : ∀ j, j = b → gb ob hs j := fun _ e => .inr ⟨_, List.mem_of_getElem? hi, e.symm⟩

/-- two places exchanged -/
def swp {α : Type} (l : List α) (i j : Nat) : List α := match l[i]?, l[j]? with
  | some x, some y => (l.set i y).set j x
  | _, _ => l

theorem swp_len {α : Type} (l : List α) (i j : Nat) : (swp l i j).length = l.length := by
  unfold swp; split <;> simp
theorem swp_get {α : Type} (l : List α) (i j : Nat) {x y : α} (hi : l[i]? = some x) (hj : l[j]? = some y) (k : Nat) :
    (swp l i j)[k]? = if k = j then some x else if k = i then some y else l[k]? := by
  have h1 := (List.getElem?_eq_some_iff.1 hi).1
  have h2 := (List.getElem?_eq_some_iff.1 hj).1
  unfold swp
  rw [hi, hj]
  simp only [List.getElem?_set]
  by_cases e : j = k
  · subst e; simp [h2]
  · have e' : ¬ k = j := fun h => e h.symm
    rw [if_neg e, if_neg e']
    by_cases e2 : i = k
    · subst e2; simp [h1]
    · have e2' : ¬ k = i := fun h => e2 h.symm
      rw [if_neg e2, if_neg e2']

theorem GridIs.swap {w : World} {ob oo : Nat} {hs : List (Nat × Nat × Nat)} {g : List (List Int)} (h : GridIs w ob oo hs g) {i j : Nat} {hi hj : Nat × Nat × Nat} {xs ys : List Int}
    (h1 : hs[i]? = some hi) (h2 : hs[j]? = some hj) (h3 : g[i]? = some xs) (h4 : g[j]? = some ys) (hij : i ≠ j) :
    GridIs ((w.setCell ⟨ob, oo + i, none⟩ (.slice (some ⟨hj.1, hj.2.1, none⟩) ys.length hj.2.2)).setCell ⟨ob, oo + j, none⟩ (.slice (some ⟨hi.1, hi.2.1, none⟩) xs.length hi.2.2)) ob oo (swp hs i j) (swp g i j) := by
  have hf : Fx (· = ob) w ((w.setCell ⟨ob, oo + i, none⟩ (.slice (some ⟨hj.1, hj.2.1, none⟩) ys.length hj.2.2)).setCell ⟨ob, oo + j, none⟩ (.slice (some ⟨hi.1, hi.2.1, none⟩) xs.length hi.2.2)) :=
    Fx.setCell (p := (· = ob)) (q := ⟨ob, oo + j, none⟩) (Fx.setCell (p := (· = ob)) (q := ⟨ob, oo + i, none⟩) (Fx.refl _ w) (.inl rfl) _) (.inl rfl) _
  have ci := h.cell i _ _ h1 h3
  have cj := h.cell j _ _ h2 h4
  have eij : (⟨ob, oo + i, none⟩ : Addr) ≠ ⟨ob, oo + j, none⟩ := fun e => by injection e with _ e; omega
  refine ⟨by rw [swp_len, swp_len, h.len], Nat.lt_of_lt_of_le h.outer hf.size, h.gob, fun k hd zs k1 k2 => ?_, fun k hd zs k1 k2 => ?_, fun a b ha hb k1 k2 hab => ?_⟩
  · rw [swp_get hs i j h1 h2] at k1
    rw [swp_get g i j h3 h4] at k2
    rw [World.frozen?_setCell, World.frozen?_setCell]
    by_cases e : k = j
    · subst e
      rw [if_pos rfl] at k1 k2
      injection k1 with k1; injection k2 with k2; subst k1; subst k2
      refine ⟨World.cell?_setCell_same' _ _ _ ?_, cj.2⟩
      rw [World.cell?_setCell_other _ _ _ _ eij, cj.1]; rfl
    · rw [if_neg e] at k1 k2
      have ekj : (⟨ob, oo + j, none⟩ : Addr) ≠ ⟨ob, oo + k, none⟩ := fun e2 => by injection e2 with _ e2; omega
      rw [World.cell?_setCell_other _ _ _ _ ekj]
      by_cases e2 : k = i
      · subst e2
        rw [if_pos rfl] at k1 k2
        injection k1 with k1; injection k2 with k2; subst k1; subst k2
        exact ⟨World.cell?_setCell_same' _ _ _ (by rw [ci.1]; rfl), ci.2⟩
      · rw [if_neg e2] at k1 k2
        have eki : (⟨ob, oo + i, none⟩ : Addr) ≠ ⟨ob, oo + k, none⟩ := fun e3 => by injection e3 with _ e3; omega
        rw [World.cell?_setCell_other _ _ _ _ eki]
        exact h.cell k hd zs k1 k2
  · rw [swp_get hs i j h1 h2] at k1
    rw [swp_get g i j h3 h4] at k2
    have go : ∀ (m : Nat) (hd : Nat × Nat × Nat) (zs : List Int), hs[m]? = some hd → g[m]? = some zs → Own ((w.setCell ⟨ob, oo + i, none⟩ (.slice (some ⟨hj.1, hj.2.1, none⟩) ys.length hj.2.2)).setCell ⟨ob, oo + j, none⟩ (.slice (some ⟨hi.1, hi.2.1, none⟩) xs.length hi.2.2)) hd.1 hd.2.1 zs ∧ hd.1 ≠ ob := fun m hd zs m1 m2 => by
      have := h.row m hd zs m1 m2
      exact ⟨this.1.fx hf this.2, this.2⟩
    by_cases e : k = j
    · subst e; rw [if_pos rfl] at k1 k2; injection k1 with k1; injection k2 with k2; subst k1; subst k2; exact go i _ _ h1 h3
    · rw [if_neg e] at k1 k2
      by_cases e2 : k = i
      · subst e2; rw [if_pos rfl] at k1 k2; injection k1 with k1; injection k2 with k2; subst k1; subst k2; exact go j _ _ h2 h4
      · rw [if_neg e2] at k1 k2; exact go k _ _ k1 k2
  · rw [swp_get hs i j h1 h2] at k1 k2
    have key : ∀ (k : Nat) (hd : Nat × Nat × Nat), (if k = j then some hi else if k = i then some hj else hs[k]?) = some hd → ∃ m, hs[m]? = some hd ∧ m = (if k = j then i else if k = i then j else k) := fun k hd hk => by
      by_cases e : k = j
      · rw [if_pos e] at hk ⊢; exact ⟨i, by rw [h1, hk], rfl⟩
      · rw [if_neg e] at hk ⊢
        by_cases e2 : k = i
        · rw [if_pos e2] at hk ⊢; exact ⟨j, by rw [h2, hk], rfl⟩
        · rw [if_neg e2] at hk ⊢; exact ⟨k, hk, rfl⟩
    obtain ⟨m, m1, m2⟩ := key a ha k1
    obtain ⟨n, n1, n2⟩ := key b hb k2
    refine h.apart m n _ _ m1 n1 (fun e => hab ?_)
    rw [m2, n2] at e
    repeat' split at e
    all_goals omega
theorem gb_swp {ob : Nat} {hs : List (Nat × Nat × Nat)} {i j : Nat} {hi hj : Nat × Nat × Nat} (h1 : hs[i]? = some hi) (h2 : hs[j]? = some hj) : ∀ k, gb ob (swp hs i j) k ↔ gb ob hs k := by
  have key : ∀ hd, hd ∈ swp hs i j ↔ hd ∈ hs := fun hd => by
    rw [List.mem_iff_getElem?, List.mem_iff_getElem?]
    constructor
    · rintro ⟨k, hk⟩
      rw [swp_get hs i j h1 h2] at hk
      split at hk
      · exact ⟨i, by rw [h1, hk]⟩
      · split at hk
        · exact ⟨j, by rw [h2, hk]⟩
        · exact ⟨k, hk⟩
    · rintro ⟨k, hk⟩
      by_cases e : k = i
      · subst e; rw [h1] at hk; exact ⟨j, by rw [swp_get hs k j h1 h2, if_pos rfl, hk]⟩
      · by_cases e2 : k = j
        · subst e2; rw [h2] at hk
          refine ⟨i, ?_⟩
          rw [swp_get hs i k h1 h2]
          have e' : ¬ i = k := fun h => e h.symm
          rw [if_neg e', if_pos rfl, hk]
        · exact ⟨k, by rw [swp_get hs i j h1 h2, if_neg e2, if_neg e, hk]⟩
  intro k
  unfold gb
  constructor
  · rintro (h | ⟨hd, hm, e⟩)
    · exact .inl h
    · exact .inr ⟨hd, (key hd).1 hm, e⟩
  · rintro (h | ⟨hd, hm, e⟩)
    · exact .inl h
    · exact .inr ⟨hd, (key hd).2 hm, e⟩

/-! ### the specification -/
def rowAt (g : List (List Int)) (i : Nat) : List Int := (g[i]?).getD []
def ent (g : List (List Int)) (i c : Nat) : Int := ((rowAt g i)[c]?).getD 0
def smB (n : Int) : Bool := decide (-100000000000000000 < n ∧ n < 100000000000000000)
theorem smB_sm {n : Int} (h : smB n = true) : Sm n := by unfold smB at h; have h := of_decide_eq_true h; exact h
/-- row i less the multiple of row t that makes the entry in column c least -/
def elim1 (g : List (List Int)) (c t i : Nat) : Option (List (List Int)) :=
  if smB (ent g i c) && smB (ent g t c) && ent g t c != 0 then (takeS ((ent g i c).fdiv (ent g t c)) (rowAt g i) (rowAt g t)).map (fun r => g.set i r) else none
/-- the same for j rows, from row s on -/
def elimTo (g : List (List Int)) (c t s : Nat) : Nat → Option (List (List Int))
  | 0 => some g
  | j + 1 => (elimTo g c t s j).bind fun g => elim1 g c t (s + j)
def smRow (r : List Int) : Bool := r.all smB
def finS (g : List (List Int)) (t c : Nat) : Option (List (List Int)) :=
  if ent g t c < 0 then (if smRow (rowAt g t) then elimTo (g.set t ((rowAt g t).map (fun x => -x))) c t 0 t else none) else elimTo g c t 0 t

/-- all rows have n elements -/
def Rect (n : Nat) (g : List (List Int)) : Prop := ∀ r, r ∈ g → r.length = n
theorem Rect.row {n : Nat} {g : List (List Int)} (h : Rect n g) {i : Nat} (hi : i < g.length) : (g[i]).length = n := h _ (List.getElem_mem hi)
theorem Rect.set {n : Nat} {g : List (List Int)} (h : Rect n g) {i : Nat} {r : List Int} (hr : r.length = n) : Rect n (g.set i r) := fun x hx => by
  rcases List.mem_or_eq_of_mem_set hx with h1 | h1
  · exact h x h1
  · rw [h1]; exact hr
theorem rowAt_eq {g : List (List Int)} {i : Nat} (hi : i < g.length) : rowAt g i = g[i] := by unfold rowAt; rw [List.getElem?_eq_getElem hi]; rfl
theorem ent_at {g : List (List Int)} {n i c : Nat} (h : Rect n g) (hi : i < g.length) (hc : c < n) : (g[i])[c]? = some (ent g i c) := by
  unfold ent
  rw [rowAt_eq hi]
  have : c < (g[i]).length := by rw [h.row hi]; exact hc
  rw [List.getElem?_eq_getElem this]; rfl

theorem takeS_len {q : Int} {xs ys zs : List Int} (h : takeS q xs ys = some zs) : zs.length = xs.length := by
  unfold takeS at h
  split at h
  · injection h with h; rw [h]
  · exact (takeL_spec q xs ys zs h).1

theorem elim1_some {g g' : List (List Int)} {c t i : Nat} (h : elim1 g c t i = some g') : Sm (ent g i c) ∧ Sm (ent g t c) ∧ ent g t c ≠ 0 ∧ ∃ r, takeS ((ent g i c).fdiv (ent g t c)) (rowAt g i) (rowAt g t) = some r ∧ g' = g.set i r := by
  unfold elim1 at h
  split at h
  · rename_i hc
    simp only [Bool.and_eq_true, bne_iff_ne] at hc
    obtain ⟨r, hr, rfl⟩ := Option.map_eq_some_iff.1 h
    exact ⟨smB_sm hc.1.1, smB_sm hc.1.2, hc.2, r, hr, rfl⟩
  · simp at h
theorem elim1_keeps {g g' : List (List Int)} {c t i n : Nat} (h : elim1 g c t i = some g') (hr : Rect n g) (hi : i < g.length) : Rect n g' ∧ g'.length = g.length := by
  obtain ⟨_, _, _, r, h1, rfl⟩ := elim1_some h
  exact ⟨hr.set (by rw [takeS_len h1, rowAt_eq hi, hr.row hi]), by simp⟩
theorem elimTo_keeps {g : List (List Int)} {c t s n : Nat} (hr : Rect n g) : ∀ (j : Nat) (g' : List (List Int)), elimTo g c t s j = some g' → s + j ≤ g.length → Rect n g' ∧ g'.length = g.length
  | 0, g', h, _ => by injection h with h; subst h; exact ⟨hr, rfl⟩
  | j + 1, g', h, hl => by
    obtain ⟨g1, h1, h2⟩ := Option.bind_eq_some_iff.1 h
    obtain ⟨a, b⟩ := elimTo_keeps hr j g1 h1 (by omega)
    obtain ⟨a', b'⟩ := elim1_keeps h2 a (by omega)
    exact ⟨a', by rw [b', b]⟩
theorem elimTo_mono {g : List (List Int)} {c t s : Nat} : ∀ (j k : Nat) (g' : List (List Int)), elimTo g c t s k = some g' → j ≤ k → ∃ g1, elimTo g c t s j = some g1
  | j, 0, g', h, hj => by obtain rfl : j = 0 := by omega
                          exact ⟨g, rfl⟩
  | j, k + 1, g', h, hj => by
    by_cases e : j = k + 1
    · subst e; exact ⟨g', h⟩
    · obtain ⟨g1, h1, _⟩ := Option.bind_eq_some_iff.1 h
      exact elimTo_mono j k g1 h1 (by omega)

set_option maxHeartbeats 2000000 in
/-- the loop of finish -/
theorem finish_loop (ob oo oc : Nat) (hs : List (Nat × Nat × Nat)) (g g' : List (List Int)) (n t c : Nat) (w : World) (hG : G w) (hg : GridIs w ob oo hs g) (hr : Rect n g) (hn : n ≤ 1000000) (hl : g.length ≤ 1000000)
    (ht : t < g.length) (hc : c < n) (hpos : ¬ ent g t c < 0) (hf : elimTo g c t 0 t = some g') :
    Calls Tryz.prog 157 #[.slice (some ⟨ob, oo, none⟩) g.length oc, .int .i64 t, .int .i64 c] w fun e w' => e = .returned (.tuple #[]) ∧ Fx (gb ob hs) w w' ∧ GridIs w' ob oo hs g' := by
  obtain ⟨b, o, cc, hst, hc1, hf1, hro, hbo⟩ := hg.at ht
  have hec := ent_at hr ht hc
  have hcell := (hro.2.2 c _ hec).1
  have hrl := hr.row ht
  rw [hrl] at hc1
  have hge : 0 ≤ ent g t c := by omega
  have hG0 := Lib.hid hg
  have hR0 := Lib.hid hr
  have hF0 := Lib.hid hf
  have hG1 := Lib.hid hG
  clear hec hf hg hr hrl hpos hro hbo hst
  go_enter Tryz.func157, Tryz.ntmps157
  go_wp2_with fail
  refine (Sign_any _ _).mono ?_; rintro e w' ⟨rfl, rfl⟩
  go_wp2_with fail
  clear hc1 hf1 hcell hge
  go_loopg [25] t (fun k s25 wr => ∃ (j : Nat) (g1 : List (List Int)), s25 = .int .i64 j ∧ j + k = t ∧ Hid (elimTo g c t 0 j = some g1) ∧ GridIs wr ob oo hs g1 ∧ Fx (gb ob hs) w wr)
  case atStart => exact ⟨0, g, rfl, by omega, rfl, hG0.out, Fx.refl _ _⟩
  case round =>
    obtain ⟨j, g1, rfl, hjk, he, hgr, hfx⟩ := hrel
    obtain ⟨hr1, hl1⟩ := elimTo_keeps hR0.out j g1 he.out (by omega)
    by_cases hlt : j < t
    · obtain ⟨g2, hg2⟩ := elimTo_mono (j + 1) t g' hF0.out (by omega)
      have hstep : elim1 g1 c t j = some g2 := by
        have := hg2
        rw [elimTo, he.out] at this
        simpa using this
      obtain ⟨sa, sb, hb0, r, htk, rfl⟩ := elim1_some hstep
      have hj1 : j < g1.length := by omega
      have ht1 : t < g1.length := by omega
      obtain ⟨b1, o1, k1, hs1, ca1, cf1, ro1, bo1⟩ := hgr.at hj1
      obtain ⟨b2, o2, k2, hs2, ca2, cf2, ro2, bo2⟩ := hgr.at ht1
      have hb12 := hgr.apart j t _ _ hs1 hs2 (by omega)
      have ce1 := (ro1.2.2 c _ (ent_at hr1 hj1 hc)).1
      have ce2 := (ro2.2.2 c _ (ent_at hr1 ht1 hc)).1
      rw [hr1.row hj1] at ca1
      rw [hr1.row ht1] at ca2
      have hGr := hG1.out.fx hfx hgr.ge
      have q0 : (0 : Int) ≤ (j : Int) := Int.natCast_nonneg _
      have q1 : (j : Int) < (g.length : Int) := by omega
      have q2 : (t : Int) < (g.length : Int) := by omega
      have q3 : (c : Int) < (n : Int) := by omega
      replace hg2 := Lib.hid hg2
      replace htk := Lib.hid htk
      have hgr2 := Lib.hid hgr
      replace ro1 := Lib.hid ro1
      replace ro2 := Lib.hid ro2
      replace hs1 := Lib.hid hs1
      replace hr1 := Lib.hid hr1
      go_wp2_with fail
      go_region_held3 (fun w' => w'.cell? ⟨ob, oo + j, none⟩ = some (.slice (some ⟨b1, o1, none⟩) n k1) ∧ w'.cell? ⟨b1, o1 + c, none⟩ = some (.string (tx (ent g1 j c))) ∧ w'.cell? ⟨ob, oo + t, none⟩ = some (.slice (some ⟨b2, o2, none⟩) n k2) ∧ w'.cell? ⟨b2, o2 + c, none⟩ = some (.string (tx (ent g1 t c))))
        (first | go_keep | (go_split_ands; refine ⟨?_, ?_, ?_, ?_⟩ <;> (refine Fr.keep (by assumption) ?_; assumption)))
        (first | (go_at_call 131; refine (DivMod_sm _ _ sa sb hb0 _ (hGr.fr ?_)).mono ?_; (repeat (with_reducible first | assumption | exact Fr.refl _ | refine Fr.drew ?_ | refine Fr.drewN ?_ _ | refine Fr.alloc ?_ _ | (refine Fr.setCell ?_ (by simp only [World.size_alloc, World.size_drew, World.size_setCell]; omega) _) | refine Fr.trans ?_ (by assumption))); rintro e w1 ⟨rfl, hf1⟩))
      have hfr : Fr wr w1 := by repeat (with_reducible first | assumption | exact Fr.refl _ | refine Fr.drew ?_ | refine Fr.drewN ?_ _ | refine Fr.alloc ?_ _ | (refine Fr.setCell ?_ (by simp only [World.size_alloc, World.size_drew, World.size_setCell]; omega) _) | refine Fr.trans ?_ (by assumption))
      replace ca1 := hfr.keep (p := ⟨ob, oo + j, none⟩) ca1
      replace ca2 := hfr.keep (p := ⟨ob, oo + t, none⟩) ca2
      go_wp2_with fail
      have len1 : (g1[j]).length = n := hr1.out.row hj1
      have len2 : (g1[t]).length = n := hr1.out.row ht1
      rw [rowAt_eq hj1, rowAt_eq ht1] at htk
      replace len1 := Lib.hid len1
      replace len2 := Lib.hid len2
      go_region_held3 (fun w' => w'.cell? ⟨ob, oo + j, none⟩ = some (.slice (some ⟨b1, o1, none⟩) n k1) ∧ w'.cell? ⟨ob, oo + t, none⟩ = some (.slice (some ⟨b2, o2, none⟩) n k2))
        (first | go_keep | (go_split_ands; refine ⟨?_, ?_⟩ <;> (refine Fx.keep (p := (· = b1)) (by assumption) (by assumption) (fun e => bo1 e.symm))))
        (first | (go_at_call 158; refine (take_n b1 o1 k1 b2 o2 k2 n n _ _ _ r _ (hGr.fr ?_) (ro1.out.fr ?_) (ro2.out.fr ?_) hb12 (by rw [len1.out]; omega) len1.out len2.out htk.out).mono ?_; (repeat (with_reducible first | assumption | exact Fr.refl _ | refine Fr.drew ?_ | refine Fr.drewN ?_ _ | refine Fr.alloc ?_ _ | (refine Fr.setCell ?_ (by simp only [World.size_alloc, World.size_drew, World.size_setCell]; omega) _) | refine Fr.trans ?_ (by assumption))); (repeat (with_reducible first | assumption | exact Fr.refl _ | refine Fr.drew ?_ | refine Fr.drewN ?_ _ | refine Fr.alloc ?_ _ | (refine Fr.setCell ?_ (by simp only [World.size_alloc, World.size_drew, World.size_setCell]; omega) _) | refine Fr.trans ?_ (by assumption))); (repeat (with_reducible first | assumption | exact Fr.refl _ | refine Fr.drew ?_ | refine Fr.drewN ?_ _ | refine Fr.alloc ?_ _ | (refine Fr.setCell ?_ (by simp only [World.size_alloc, World.size_drew, World.size_setCell]; omega) _) | refine Fr.trans ?_ (by assumption))); rintro e w2 ⟨rfl, hfx2, hown2⟩))
      have hgF := hgr2.out.setRowF hs1.out hfx2 hown2 (fun xs h => by have h2 := takeS_len htk.out; rw [List.getElem?_eq_getElem hj1] at h; injection h with h; rw [← h]; exact h2) (by repeat (with_reducible first | assumption | exact Fr.refl _ | refine Fr.drew ?_ | refine Fr.drewN ?_ _ | refine Fr.alloc ?_ _ | (refine Fr.setCell ?_ (by simp only [World.size_alloc, World.size_drew, World.size_setCell]; omega) _) | refine Fr.trans ?_ (by assumption)))
      have hfF := hfx.via hfx2 (gb_mem hs1.out) (by repeat (with_reducible first | assumption | exact Fr.refl _ | refine Fr.drew ?_ | refine Fr.drewN ?_ _ | refine Fr.alloc ?_ _ | (refine Fr.setCell ?_ (by simp only [World.size_alloc, World.size_drew, World.size_setCell]; omega) _) | refine Fr.trans ?_ (by assumption)))
      go_wp2_with fail
      go_roundg (gk - 1)
      case measure => omega
      case rel => exact ⟨j + 1, _, by go_num, by omega, hg2, hgF, hfF⟩
    · go_wp2_with fail
      go_end0
      obtain rfl : j = t := by omega
      have h1 := he.out
      rw [hF0.out] at h1
      injection h1 with h1; subst h1
      exact ⟨rfl, hfx, hgr⟩

theorem smRow_mem {r : List Int} (h : smRow r = true) : ∀ x, x ∈ r → (tx x).size ≤ 1000000000 := fun x hx => by
  have := (smB_sm (List.all_eq_true.1 h x hx)).size; omega

set_option maxHeartbeats 2000000 in
theorem finish_any (ob oo oc : Nat) (hs : List (Nat × Nat × Nat)) (g g' : List (List Int)) (n t c : Nat) (w : World) (hG : G w) (hg : GridIs w ob oo hs g) (hr : Rect n g) (hn : n ≤ 1000000) (hl : g.length ≤ 1000000)
    (ht : t < g.length) (hc : c < n) (hf : finS g t c = some g') :
    Calls Tryz.prog 157 #[.slice (some ⟨ob, oo, none⟩) g.length oc, .int .i64 t, .int .i64 c] w fun e w' => e = .returned (.tuple #[]) ∧ Fx (gb ob hs) w w' ∧ GridIs w' ob oo hs g' := by
  unfold finS at hf
  by_cases hneg : ent g t c < 0
  · rw [if_pos hneg] at hf
    split at hf
    · rename_i hsm
      obtain ⟨b, o, cc, hst, hc1, hf1, hro, hbo⟩ := hg.at ht
      have hec := ent_at hr ht hc
      have hcell := (hro.2.2 c _ hec).1
      have hrl := hr.row ht
      have hrow := rowAt_eq ht
      have hlt0 : ent g t c < 0 := hneg
      rw [hrow] at hf hsm
      have hrs := hr.set (i := t) (r := (g[t]).map (fun x => -x)) (by simp [hrl])
      have hl0 : (g.set t ((g[t]).map (fun x => -x))).length = g.length := by simp
      have hturn := turn_any b o cc g[t] w hG hro (by rw [hrl]; omega) (smRow_mem hsm)
      rw [hrl] at hc1 hturn
      have hGs : ∀ w', Fx (· = b) w w' → Own w' b o ((g[t]).map (fun x => -x)) → GridIs w' ob oo hs (g.set t ((g[t]).map (fun x => -x))) := fun w' k1 k2 => hg.setRow hst k1 k2 (fun xs h => by rw [List.getElem?_eq_getElem ht] at h; injection h with h; rw [← h]; simp)
      have hbs := Lib.hid (gb_mem (ob := ob) hst)
      generalize hgs : g.set t ((g[t]).map (fun x => -x)) = g0 at *
      generalize (g[t]).map (fun x => -x) = zs at *
      have hR0 := Lib.hid hrs
      have hF0 := Lib.hid hf
      have hG1 := Lib.hid hG
      have hGs := Lib.hid hGs
      have hc3 := hc1
      clear hgs hrow hf hg hr hrl hneg hro hst hec hrs hsm
      rename_i hGs0
      clear hGs0
      go_enter Tryz.func157, Tryz.ntmps157
      go_wp2_with fail
      refine (Sign_any _ _).mono ?_; rintro e w' ⟨rfl, rfl⟩
      go_wp2_with fail
      refine hturn.mono ?_; rintro e w0 ⟨rfl, hfx0, hown0⟩
      have hG0 := Lib.hid (hGs.out w0 hfx0 hown0)
      have hfx1 := hfx0.mono hbs.out
      clear hturn hown0 hfx0 hc1 hf1 hcell hc3 hlt0
      go_wp2_with fail
      go_loopg [25] t (fun k s25 wr => ∃ (j : Nat) (g1 : List (List Int)), s25 = .int .i64 j ∧ j + k = t ∧ Hid (elimTo g0 c t 0 j = some g1) ∧ GridIs wr ob oo hs g1 ∧ Fx (gb ob hs) w wr)
      case atStart => exact ⟨0, g0, rfl, by omega, rfl, hG0.out, hfx1⟩
      case round =>
        obtain ⟨j, g1, rfl, hjk, he, hgr, hfx⟩ := hrel
        obtain ⟨hr1, hl1⟩ := elimTo_keeps hR0.out j g1 he.out (by omega)
        by_cases hlt : j < t
        · obtain ⟨g2, hg2⟩ := elimTo_mono (j + 1) t g' hF0.out (by omega)
          have hstep : elim1 g1 c t j = some g2 := by
            have := hg2
            rw [elimTo, he.out] at this
            simpa using this
          obtain ⟨sa, sb, hb0, r, htk, rfl⟩ := elim1_some hstep
          have hj1 : j < g1.length := by omega
          have ht1 : t < g1.length := by omega
          obtain ⟨b1, o1, k1, hs1, ca1, cf1, ro1, bo1⟩ := hgr.at hj1
          obtain ⟨b2, o2, k2, hs2, ca2, cf2, ro2, bo2⟩ := hgr.at ht1
          have hb12 := hgr.apart j t _ _ hs1 hs2 (by omega)
          have ce1 := (ro1.2.2 c _ (ent_at hr1 hj1 hc)).1
          have ce2 := (ro2.2.2 c _ (ent_at hr1 ht1 hc)).1
          rw [hr1.row hj1] at ca1
          rw [hr1.row ht1] at ca2
          have hGr := hG1.out.fx hfx hgr.ge
          have q0 : (0 : Int) ≤ (j : Int) := Int.natCast_nonneg _
          have q1 : (j : Int) < (g.length : Int) := by omega
          have q2 : (t : Int) < (g.length : Int) := by omega
          have q3 : (c : Int) < (n : Int) := by omega
          replace hg2 := Lib.hid hg2
          replace htk := Lib.hid htk
          have hgr2 := Lib.hid hgr
          replace ro1 := Lib.hid ro1
          replace ro2 := Lib.hid ro2
          replace hs1 := Lib.hid hs1
          replace hr1 := Lib.hid hr1
          go_wp2_with fail
          go_region_held3 (fun w' => w'.cell? ⟨ob, oo + j, none⟩ = some (.slice (some ⟨b1, o1, none⟩) n k1) ∧ w'.cell? ⟨b1, o1 + c, none⟩ = some (.string (tx (ent g1 j c))) ∧ w'.cell? ⟨ob, oo + t, none⟩ = some (.slice (some ⟨b2, o2, none⟩) n k2) ∧ w'.cell? ⟨b2, o2 + c, none⟩ = some (.string (tx (ent g1 t c))))
            (first | go_keep | (go_split_ands; refine ⟨?_, ?_, ?_, ?_⟩ <;> (refine Fr.keep (by assumption) ?_; assumption)))
            (first | (go_at_call 131; refine (DivMod_sm _ _ sa sb hb0 _ (hGr.fr ?_)).mono ?_; (repeat (with_reducible first | assumption | exact Fr.refl _ | refine Fr.drew ?_ | refine Fr.drewN ?_ _ | refine Fr.alloc ?_ _ | (refine Fr.setCell ?_ (by simp only [World.size_alloc, World.size_drew, World.size_setCell]; omega) _) | refine Fr.trans ?_ (by assumption))); rintro e w1 ⟨rfl, hf1⟩))
          have hfr : Fr wr w1 := by repeat (with_reducible first | assumption | exact Fr.refl _ | refine Fr.drew ?_ | refine Fr.drewN ?_ _ | refine Fr.alloc ?_ _ | (refine Fr.setCell ?_ (by simp only [World.size_alloc, World.size_drew, World.size_setCell]; omega) _) | refine Fr.trans ?_ (by assumption))
          replace ca1 := hfr.keep (p := ⟨ob, oo + j, none⟩) ca1
          replace ca2 := hfr.keep (p := ⟨ob, oo + t, none⟩) ca2
          go_wp2_with fail
          have len1 : (g1[j]).length = n := hr1.out.row hj1
          have len2 : (g1[t]).length = n := hr1.out.row ht1
          rw [rowAt_eq hj1, rowAt_eq ht1] at htk
          replace len1 := Lib.hid len1
          replace len2 := Lib.hid len2
          go_region_held3 (fun w' => w'.cell? ⟨ob, oo + j, none⟩ = some (.slice (some ⟨b1, o1, none⟩) n k1) ∧ w'.cell? ⟨ob, oo + t, none⟩ = some (.slice (some ⟨b2, o2, none⟩) n k2))
            (first | go_keep | (go_split_ands; refine ⟨?_, ?_⟩ <;> (refine Fx.keep (p := (· = b1)) (by assumption) (by assumption) (fun e => bo1 e.symm))))
            (first | (go_at_call 158; refine (take_n b1 o1 k1 b2 o2 k2 n n _ _ _ r _ (hGr.fr ?_) (ro1.out.fr ?_) (ro2.out.fr ?_) hb12 (by rw [len1.out]; omega) len1.out len2.out htk.out).mono ?_; (repeat (with_reducible first | assumption | exact Fr.refl _ | refine Fr.drew ?_ | refine Fr.drewN ?_ _ | refine Fr.alloc ?_ _ | (refine Fr.setCell ?_ (by simp only [World.size_alloc, World.size_drew, World.size_setCell]; omega) _) | refine Fr.trans ?_ (by assumption))); (repeat (with_reducible first | assumption | exact Fr.refl _ | refine Fr.drew ?_ | refine Fr.drewN ?_ _ | refine Fr.alloc ?_ _ | (refine Fr.setCell ?_ (by simp only [World.size_alloc, World.size_drew, World.size_setCell]; omega) _) | refine Fr.trans ?_ (by assumption))); (repeat (with_reducible first | assumption | exact Fr.refl _ | refine Fr.drew ?_ | refine Fr.drewN ?_ _ | refine Fr.alloc ?_ _ | (refine Fr.setCell ?_ (by simp only [World.size_alloc, World.size_drew, World.size_setCell]; omega) _) | refine Fr.trans ?_ (by assumption))); rintro e w2 ⟨rfl, hfx2, hown2⟩))
          have hgF := hgr2.out.setRowF hs1.out hfx2 hown2 (fun xs h => by have h2 := takeS_len htk.out; rw [List.getElem?_eq_getElem hj1] at h; injection h with h; rw [← h]; exact h2) (by repeat (with_reducible first | assumption | exact Fr.refl _ | refine Fr.drew ?_ | refine Fr.drewN ?_ _ | refine Fr.alloc ?_ _ | (refine Fr.setCell ?_ (by simp only [World.size_alloc, World.size_drew, World.size_setCell]; omega) _) | refine Fr.trans ?_ (by assumption)))
          have hfF := hfx.via hfx2 (gb_mem hs1.out) (by repeat (with_reducible first | assumption | exact Fr.refl _ | refine Fr.drew ?_ | refine Fr.drewN ?_ _ | refine Fr.alloc ?_ _ | (refine Fr.setCell ?_ (by simp only [World.size_alloc, World.size_drew, World.size_setCell]; omega) _) | refine Fr.trans ?_ (by assumption)))
          go_wp2_with fail
          go_roundg (gk - 1)
          case measure => omega
          case rel => exact ⟨j + 1, _, by go_num, by omega, hg2, hgF, hfF⟩
        · go_wp2_with fail
          go_end0
          obtain rfl : j = t := by omega
          have h1 := he.out
          rw [hF0.out] at h1
          injection h1 with h1; subst h1
          exact ⟨rfl, hfx, hgr⟩
    · simp at hf
  · rw [if_neg hneg] at hf
    exact finish_loop ob oo oc hs g g' n t c w hG hg hr hn hl ht hc hneg hf
end Go.Proofs.YtphjfalibnnohaaGreatDoor
