/-
  Contracts and laws for the statements of the law 43 of the seat, QB.
-/
import Derived.Test.YtbpfkmpkadimeaaGreatDoorQA
import Derived.Deep.AppendLies
import Derived.Maps.AppendAt

/- smith.hermitian. -/
namespace Go.Proofs.YtbpfkmpkadimeaaGreatDoor
open Go.RowKit Go.Lib
attribute [local go_sem ↓] Go.wp_at_zero Go.wp_at_succ

/-- which row has the least entry that is not 0, and whether there are more -/
def pick1 (g : List (List Int)) (c i : Nat) (s : Option Nat × Bool) : Option Nat × Bool :=
  if ent g i c = 0 then s else match s.1 with
  | none => (some i, s.2)
  | some k => (if cmpI ((ent g i c).natAbs : Int) ((ent g k c).natAbs : Int) < 0 then some i else some k, true)
def pickTo (g : List (List Int)) (c t : Nat) : Nat → Option Nat × Bool
  | 0 => (none, false)
  | j + 1 => pick1 g c (t + j) (pickTo g c t j)
def kI : Option Nat → Int
  | none => -1
  | some k => k
def colOk (g : List (List Int)) (c : Nat) : Bool := (List.range g.length).all fun i => smB (ent g i c)
def colL : Nat → List (List Int) → Nat → Nat → Option (List (List Int) × Nat)
  | 0, _, _, _ => none
  | F + 1, g, c, t =>
    if colOk g c then
      match pickTo g c t (g.length - t) with
      | (none, _) => some (g, t)
      | (some k, true) => (elimTo (swp g t k) c t (t + 1) (g.length - (t + 1))).bind fun g2 => colL F g2 c t
      | (some k, false) => (finS (swp g t k) t c).map fun g2 => (g2, t + 1)
    else none
def herm (F : Nat) : Nat → Nat → List (List Int) → Nat → Option (List (List Int) × Nat)
  | 0, _, g, t => some (g, t)
  | n + 1, c, g, t => if t < g.length then (colL F g c t).bind fun r => herm F n (c + 1) r.1 r.2 else some (g, t)

/-- the same rows, in another order -/
def Same (ob : Nat) (a b : List (Nat × Nat × Nat)) : Prop := (∀ k, gb ob a k ↔ gb ob b k) ∧ ∀ h, h ∈ a → h ∈ b
theorem swp_mem {α : Type} {l : List α} {i j : Nat} {x : α} (h : x ∈ swp l i j) : x ∈ l := by
  unfold swp at h
  split at h
  · rename_i a b ha hb
    rcases List.mem_or_eq_of_mem_set h with h1 | h1
    · rcases List.mem_or_eq_of_mem_set h1 with h2 | h2
      · exact h2
      · rw [h2]; exact List.mem_of_getElem? hb
    · rw [h1]; exact List.mem_of_getElem? ha
  · exact h
theorem swp_same {α : Type} (l : List α) (i : Nat) : swp l i i = l := by
  unfold swp
  cases h : l[i]? with
  | none => rfl
  | some x =>
    have hi := (List.getElem?_eq_some_iff.1 h).1
    refine List.ext_getElem? fun k => ?_
    simp only [List.getElem?_set]
    by_cases e : i = k
    · subst e; simp [hi]; exact ((List.getElem?_eq_some_iff.1 h).2).symm
    · simp [e]
theorem swp_rect {n : Nat} {g : List (List Int)} {i j : Nat} (h : Rect n g) : Rect n (swp g i j) := by
  unfold swp
  split
  · rename_i x y hx hy
    exact (h.set (h _ (List.mem_of_getElem? hy))).set (h _ (List.mem_of_getElem? hx))
  · exact h
theorem finS_keeps {g g' : List (List Int)} {t c n : Nat} (h : finS g t c = some g') (hr : Rect n g) (ht : t < g.length) : Rect n g' ∧ g'.length = g.length := by
  unfold finS at h
  split at h
  · split at h
    · have hr1 : Rect n (g.set t ((rowAt g t).map (fun x => -x))) := hr.set (by rw [rowAt_eq ht]; simp [hr.row ht])
      obtain ⟨a, b⟩ := elimTo_keeps hr1 t g' h (by simp; omega)
      exact ⟨a, by rw [b]; simp⟩
    · simp at h
  · exact elimTo_keeps hr t g' h (by omega)
theorem GridIs.same {w : World} {ob oo : Nat} {hs : List (Nat × Nat × Nat)} {g : List (List Int)} (h : GridIs w ob oo hs g) {i : Nat} {v : Value} (hv : w.cell? ⟨ob, oo + i, none⟩ = some v) :
    GridIs ((w.setCell ⟨ob, oo + i, none⟩ v).setCell ⟨ob, oo + i, none⟩ v) ob oo hs g := by
  have hc : ∀ q, ((w.setCell ⟨ob, oo + i, none⟩ v).setCell ⟨ob, oo + i, none⟩ v).cell? q = w.cell? q := fun q => by
    by_cases e : (⟨ob, oo + i, none⟩ : Addr) = q
    · subst e
      rw [hv]
      refine World.cell?_setCell_same' _ _ _ ?_
      rw [World.cell?_setCell_same' _ _ _ (by rw [hv]; rfl)]; rfl
    · rw [World.cell?_setCell_other _ _ _ _ e, World.cell?_setCell_other _ _ _ _ e]
  have hf : ∀ q, ((w.setCell ⟨ob, oo + i, none⟩ v).setCell ⟨ob, oo + i, none⟩ v).frozen? q = w.frozen? q := fun q => by
    rw [World.frozen?_setCell, World.frozen?_setCell]
  have hs' : ((w.setCell ⟨ob, oo + i, none⟩ v).setCell ⟨ob, oo + i, none⟩ v).heap.size = w.heap.size := by simp [World.setCell]
  refine ⟨h.len, by rw [hs']; exact h.outer, h.gob, fun j hd xs h1 h2 => ?_, fun j hd xs h1 h2 => ?_, h.apart⟩
  · rw [hc, hf]; exact h.cell j hd xs h1 h2
  · obtain ⟨⟨a1, a2, a3⟩, a4⟩ := h.row j hd xs h1 h2
    exact ⟨⟨a1, by rw [hs']; exact a2, fun m x hx => by rw [hc, hf]; exact a3 m x hx⟩, a4⟩
theorem colL_succ {F c t : Nat} {g : List (List Int)} {r : List (List Int) × Nat} (h : colL (F + 1) g c t = some r) : colL (F + 1) g c t = match pickTo g c t (g.length - t) with
      | (none, _) => some (g, t)
      | (some k, true) => (elimTo (swp g t k) c t (t + 1) (g.length - (t + 1))).bind fun g2 => colL F g2 c t
      | (some k, false) => (finS (swp g t k) t c).map fun g2 => (g2, t + 1) := by
  conv => lhs; unfold colL
  by_cases e : colOk g c = true
  · rw [if_pos e]
  · unfold colL at h; rw [if_neg e] at h; simp at h
theorem pickTo_none {g : List (List Int)} {c t : Nat} : ∀ j, (pickTo g c t j).1 = none → (pickTo g c t j).2 = false
  | 0, _ => rfl
  | j + 1, h => by
    unfold pickTo pick1 at h ⊢
    split
    · rename_i h0; rw [if_pos h0] at h; exact pickTo_none j h
    · rename_i h0; rw [if_neg h0] at h
      split at h
      · simp at h
      · split at h <;> simp at h
theorem pickTo_lt {g : List (List Int)} {c t : Nat} : ∀ j k, (pickTo g c t j).1 = some k → t ≤ k ∧ k < t + j
  | 0, k, h => by simp [pickTo] at h
  | j + 1, k, h => by
    unfold pickTo pick1 at h
    split at h
    · have := pickTo_lt j k h; omega
    · split at h
      · injection h with h; omega
      · rename_i k' hk'
        have := pickTo_lt j k' hk'
        split at h <;> (injection h with h; omega)

set_option maxRecDepth 100000 in
set_option maxHeartbeats 4000000 in
theorem herm_any (ob oo oc : Nat) (hs : List (Nat × Nat × Nat)) (g gF : List (List Int)) (F n cols tF : Nat) (w : World) (hG : G w) (hg : GridIs w ob oo hs g) (hr : Rect n g) (hn : n ≤ 1000000) (hl : g.length ≤ 1000000)
    (hc : cols ≤ n) (hoc : g.length ≤ oc) (hf : herm F cols 0 g 0 = some (gF, tF)) :
    Calls Tryz.prog 187 #[.slice (some ⟨ob, oo, none⟩) g.length oc, .int .i64 cols] w fun e w' => e = .returned (.slice (some ⟨ob, oo, none⟩) tF oc) ∧ tF ≤ g.length ∧ gF.length = g.length ∧ Rect n gF ∧ ∃ hs', Same ob hs' hs ∧ Fx (gb ob hs) w w' ∧ GridIs w' ob oo hs' gF := by
  have hG0 := Lib.hid hg
  have hR0 := Lib.hid hr
  have hF0 := Lib.hid hf
  have hG1 := Lib.hid hG
  clear hg hr hf hG
  go_enter Tryz.func187, Tryz.ntmps187
  go_wp2_with fail
  go_loopg [5, 6] cols (fun k s5 s6 wr => ∃ (c top : Nat) (g1 : List (List Int)) (hs1 : List (Nat × Nat × Nat)), s5 = .int .i64 top ∧ s6 = .int .i64 c ∧ c + k = cols ∧ top ≤ g.length ∧ Hid (herm F k c g1 top = some (gF, tF)) ∧ Hid (GridIs wr ob oo hs1 g1) ∧ Hid (Rect n g1) ∧ Hid (g1.length = g.length) ∧ Hid (Same ob hs1 hs) ∧ Fx (gb ob hs) w wr)
  case atStart => exact ⟨0, 0, g, hs, rfl, rfl, by omega, by omega, hF0, hG0, hR0, rfl, ⟨fun _ => Iff.rfl, fun _ h => h⟩, Fx.refl _ _⟩
  case round =>
    obtain ⟨c, top, g1, hs1, rfl, rfl, hck, htop, hh1, hg1, hr1, hl1, hb1, hfx1⟩ := hrel
    by_cases hcc : c < cols
    · by_cases htl : top < g.length
      · obtain ⟨k, rfl⟩ : ∃ k, gk = k + 1 := ⟨gk - 1, by omega⟩
        have hcol : ∃ r, colL F g1 c top = some r ∧ herm F k (c + 1) r.1 r.2 = some (gF, tF) := by
          have h := hh1.out
          rw [herm, if_pos (by rw [hl1.out]; exact htl)] at h
          exact Option.bind_eq_some_iff.1 h
        obtain ⟨⟨g', t'⟩, hc1, hc2⟩ := hcol
        have hc2 := Lib.hid hc2
        go_wp2_with fail
        go_loopg [5] F (fun f s5 wr2 => ∃ (g2 : List (List Int)) (hs2 : List (Nat × Nat × Nat)), s5 = .int .i64 top ∧ Hid (colL f g2 c top = some (g', t')) ∧ Hid (GridIs wr2 ob oo hs2 g2) ∧ Hid (Rect n g2) ∧ Hid (g2.length = g.length) ∧ Hid (Same ob hs2 hs) ∧ Fx (gb ob hs) w wr2)
        case atStart => exact ⟨g1, hs1, rfl, hc1, hg1, hr1, hl1, hb1, hfx1⟩
        case round =>
          clear hg1 hr1 hl1 hb1 hfx1 hh1 hc1
          obtain ⟨g2, hs2, rfl, hc1, hg2, hr2, hl2, hb2, hfx2⟩ := hrel
          obtain ⟨f, rfl⟩ : ∃ f', gk = f' + 1 := by
            cases gk with
            | zero => have := hc1.out; simp [colL] at this
            | succ f => exact ⟨f, rfl⟩
          have hcok : colOk g2 c = true := by
            have h := hc1.out
            unfold colL at h
            split at h
            · assumption
            · simp at h
          have hsm : ∀ i, i < g.length → Sm (ent g2 i c) := fun i hi => smB_sm (List.all_eq_true.1 hcok i (List.mem_range.2 (by rw [hl2.out]; exact hi)))
          replace hsm := Lib.hid hsm
          clear hcok
          go_wp2_with fail
          go_loopg [7, 8, 9] (g.length - top) (fun m s7 s8 s9 wr3 => ∃ i j : Nat, s9 = .int .i64 i ∧ Hid (i = top + j) ∧ i + m = g.length ∧ s7 = .int .i64 (kI (pickTo g2 c top j).1) ∧ s8 = .bool (pickTo g2 c top j).2 ∧ Qt wr wr3)
          case atStart => exact ⟨top, 0, rfl, rfl, by omega, rfl, rfl, Qt.refl _⟩
          case round =>
            obtain ⟨i, j, rfl, hij, hjm, rfl, rfl, hq3⟩ := hrel
            by_cases hil : i < g.length
            · have hgr3 := hg2.out.fr hq3.fr
              have hln2 := hl2.out
              obtain ⟨bi, oi, ki, hsi, cai, cfi, roi, boi⟩ := hgr3.at (i := i) (by rw [hln2]; exact hil)
              have cei := (roi.2.2 c _ (ent_at hr2.out (by rw [hln2]; exact hil) (show c < n by omega))).1
              rw [hr2.out.row (by rw [hln2]; exact hil)] at cai
              have zi : (0 : Int) ≤ (i : Int) := Int.natCast_nonneg _
              have zi2 : (i : Int) < (g.length : Int) := by omega
              have zc : (0 : Int) ≤ (c : Int) := Int.natCast_nonneg _
              have zc2 : (c : Int) < (n : Int) := by omega
              have hb := tx_beq0 (ent g2 i c)
              have hstep : pickTo g2 c top (j + 1) = pick1 g2 c i (pickTo g2 c top j) := by rw [pickTo, hij.out]
              have hij2 := Lib.hid (show i + 1 = top + (j + 1) by have := hij.out; omega)
              have hno := pickTo_none (g := g2) (c := c) (t := top) j
              have hlt := pickTo_lt (g := g2) (c := c) (t := top) j
              have hs1 := Lib.hid (hsm.out i hil).size
              by_cases h0 : ent g2 i c = 0
              · rw [decide_eq_true h0] at hb
                have hst2 := Lib.hid (show pickTo g2 c top (j + 1) = pickTo g2 c top j by rw [hstep]; unfold pick1; rw [if_pos h0])
                clear hstep h0 hno hlt hsi roi hgr3 hln2
                go_wp2_with fail
                go_roundg (gk - 1)
                case measure => omega
                case rel => exact ⟨i + 1, j + 1, by go_num, hij2, by omega, by rw [hst2.out], by rw [hst2.out], hq3⟩
              · rw [decide_eq_false h0] at hb
                generalize pickTo g2 c top j = p at *
                obtain ⟨kk, mo⟩ := p
                cases kk with
                | none =>
                  obtain rfl : mo = false := hno rfl
                  have hst2 := Lib.hid (show pickTo g2 c top (j + 1) = (some i, false) by rw [hstep]; unfold pick1; rw [if_neg h0])
                  clear hstep h0 hno hlt hsi roi hgr3 hln2
                  simp only [kI]
                  go_wp2_with fail
                  go_quiet (fail)
                  go_wp2_with fail
                  go_roundg (gk - 1)
                  case measure => omega
                  case rel => exact ⟨i + 1, j + 1, by go_num, hij2, by omega, by rw [hst2.out]; rfl, by rw [hst2.out], by repeat (with_reducible first | assumption | exact Qt.refl _ | refine Qt.drew ?_ | refine Qt.drewN ?_ _ | refine Qt.trans ?_ (by assumption))⟩
                | some q =>
                  obtain ⟨hq1, hq2⟩ := hlt q rfl
                  have hql : q < g.length := by have := hij.out; omega
                  obtain ⟨bq, oq, kq, hsq, caq, cfq, roq, boq⟩ := hgr3.at (i := q) (by rw [hln2]; exact hql)
                  have ceq := (roq.2.2 c _ (ent_at hr2.out (by rw [hln2]; exact hql) (show c < n by omega))).1
                  rw [hr2.out.row (by rw [hln2]; exact hql)] at caq
                  have zq : (0 : Int) ≤ (q : Int) := Int.natCast_nonneg _
                  have zq2 : (q : Int) < (g.length : Int) := by omega
                  have hs2 := Lib.hid (hsm.out q hql).size
                  have hs3 := Lib.hid (show (tx ((ent g2 i c).natAbs : Int)).size ≤ 18 by have h := hsm.out i hil; unfold Sm at h; exact tx_size_le 17 _ (by omega) (by omega))
                  have hs4 := Lib.hid (show (tx ((ent g2 q c).natAbs : Int)).size ≤ 18 by have h := hsm.out q hql; unfold Sm at h; exact tx_size_le 17 _ (by omega) (by omega))
                  replace hq1 := Lib.hid hq1
                  replace hq2 := Lib.hid hq2
                  by_cases hcm : cmpI ((ent g2 i c).natAbs : Int) ((ent g2 q c).natAbs : Int) < 0
                  · have hst2 := Lib.hid (show pickTo g2 c top (j + 1) = (some i, true) by rw [hstep]; unfold pick1; rw [if_neg h0]; simp only [if_pos hcm])
                    clear hstep h0 hno hlt hsi roi hgr3 hln2 hsq roq
                    simp only [kI]
                    cases mo
                    all_goals
                      go_wp2_with fail
                      go_quiet (first | (go_at_call 191; exact Calls.quiet_of (Abs_anyQ _ _ (by first | (have := hs1.out; omega) | (have := hs2.out; omega)))) | (go_at_call 190; exact Calls.quiet_of (Compare_anyQ _ _ _ (by have := hs3.out; omega) (by have := hs4.out; omega))))
                      go_wp2_with fail
                      go_roundg (gk - 1)
                      case measure => omega
                      case rel => exact ⟨i + 1, j + 1, by go_num, hij2, by omega, by rw [hst2.out]; rfl, by rw [hst2.out], by repeat (with_reducible first | assumption | exact Qt.refl _ | refine Qt.drew ?_ | refine Qt.drewN ?_ _ | refine Qt.trans ?_ (by assumption))⟩
                  · have hst2 := Lib.hid (show pickTo g2 c top (j + 1) = (some q, true) by rw [hstep]; unfold pick1; rw [if_neg h0]; simp only [if_neg hcm])
                    have hcm2 : 0 ≤ cmpI ((ent g2 i c).natAbs : Int) ((ent g2 q c).natAbs : Int) := by omega
                    clear hstep h0 hno hlt hsi roi hgr3 hln2 hsq roq hcm
                    simp only [kI]
                    cases mo
                    all_goals
                      go_wp2_with fail
                      go_quiet (first | (go_at_call 191; exact Calls.quiet_of (Abs_anyQ _ _ (by first | (have := hs1.out; omega) | (have := hs2.out; omega)))) | (go_at_call 190; exact Calls.quiet_of (Compare_anyQ _ _ _ (by have := hs3.out; omega) (by have := hs4.out; omega))))
                      go_wp2_with fail
                      go_roundg (gk - 1)
                      case measure => omega
                      case rel => exact ⟨i + 1, j + 1, by go_num, hij2, by omega, by rw [hst2.out]; rfl, by rw [hst2.out], by repeat (with_reducible first | assumption | exact Qt.refl _ | refine Qt.drew ?_ | refine Qt.drewN ?_ _ | refine Qt.trans ?_ (by assumption))⟩
            · have hj : j = g.length - top := by have := hij.out; omega
              have hd : decide (i < g.length) = false := decide_eq_false hil
              have hcol : colL (f + 1) g2 c top = match pickTo g2 c top j with
                | (none, _) => some (g2, top)
                | (some k, true) => (elimTo (swp g2 top k) c top (top + 1) (g2.length - (top + 1))).bind fun g2 => colL f g2 c top
                | (some k, false) => (finS (swp g2 top k) top c).map fun g2 => (g2, top + 1) := by
                rw [hj, ← hl2.out]
                exact colL_succ hc1.out
              rw [hc1.out] at hcol
              have hno := pickTo_none (g := g2) (c := c) (t := top) j
              have hlt := pickTo_lt (g := g2) (c := c) (t := top) j
              generalize pickTo g2 c top j = p at *
              obtain ⟨kk, mo⟩ := p
              have hgr3 := Lib.hid (hg2.out.fr hq3.fr)
              have hfx3 := hfx2.fr hq3.fr
              cases kk with
              | none =>
                have hcol2 := Lib.hid (show some (g', t') = some (g2, top) from hcol)
                clear hcol hno hlt
                simp only [kI]
                go_wp2_with fail
                go_roundg k
                case measure => omega
                case rel =>
                  have h := hcol2.out
                  injection h with h; injection h with h1 h2; subst h1; subst h2
                  exact ⟨c + 1, t', g', hs2, by go_num, by go_num, by omega, htop, hc2, hgr3, hr2, hl2, hb2, hfx3⟩
              | some q =>
                have hq := hlt q rfl
                have hq2 : q < g.length := by have := hij.out; omega
                replace hq := Lib.hid hq.1
                simp only [kI]
                clear hno hlt
                have hcolT : mo = true → (elimTo (swp g2 top q) c top (top + 1) ((swp g2 top q).length - (top + 1))).bind (fun g2 => colL f g2 c top) = some (g', t') := fun e => by
                  subst e; rw [swp_len]; exact hcol.symm
                have hcolF : mo = false → (finS (swp g2 top q) top c).map (fun g2 => (g2, top + 1)) = some (g', t') := fun e => by
                  subst e; exact hcol.symm
                clear hcol
                have hln2 := hl2.out
                obtain ⟨bt, ot, kt, hst, cat, cft, rot, bot⟩ := hgr3.out.at (i := top) (by rw [hln2]; exact htl)
                obtain ⟨bq, oq, kq, hsq, caq, cfq, roq, boq⟩ := hgr3.out.at (i := q) (by rw [hln2]; exact hq2)
                rw [hr2.out.row (by rw [hln2]; exact htl)] at cat
                rw [hr2.out.row (by rw [hln2]; exact hq2)] at caq
                have ztop : (0 : Int) ≤ (top : Int) := Int.natCast_nonneg _
                have zq : (0 : Int) ≤ (q : Int) := Int.natCast_nonneg _
                have ztop2 : (top : Int) < (g.length : Int) := by omega
                have zq2 : (q : Int) < (g.length : Int) := by omega
                by_cases htq : top = q
                · subst htq
                  replace hcolT := Lib.hid hcolT
                  replace hcolF := Lib.hid hcolF
                  replace hst := Lib.hid hst
                  replace hsq := Lib.hid hsq
                  go_wp2_with fail
                  go_region
                  have hgX : GridIs ((wr.setCell ⟨ob, oo + top, none⟩ (.slice (some ⟨bt, ot, none⟩) n kt)).setCell ⟨ob, oo + top, none⟩ (.slice (some ⟨bt, ot, none⟩) n kt)).drew ob oo hs2 g2 := (hgr3.out.same cat).fr (Fr.refl _).drew
                  have hfX : Fx (gb ob hs) w ((wr.setCell ⟨ob, oo + top, none⟩ (.slice (some ⟨bt, ot, none⟩) n kt)).setCell ⟨ob, oo + top, none⟩ (.slice (some ⟨bt, ot, none⟩) n kt)).drew :=
                    ((hfx3.setCell (q := ⟨ob, oo + top, none⟩) (.inl (.inl rfl)) _).setCell (q := ⟨ob, oo + top, none⟩) (.inl (.inl rfl)) _).drew
                  generalize ((wr.setCell ⟨ob, oo + top, none⟩ (.slice (some ⟨bt, ot, none⟩) n kt)).setCell ⟨ob, oo + top, none⟩ (.slice (some ⟨bt, ot, none⟩) n kt)).drew = W at hgX hfX ⊢
                  rw [swp_same] at hcolT hcolF
                  have hRX := hr2
                  have hlX := hl2
                  have hbX := hb2
                  clear hg2 hr2 hl2 hb2 hfx2 hgr3 hfx3 hst hsq cat caq cft cfq rot roq hc1 hq3 hsm hln2 hij hd
                  generalize g2 = gX at *
                  generalize hs2 = hsX at *
                  replace hgX := Lib.hid hgX
                  cases mo with
                  | true =>
                    have hbd : ∃ gE, elimTo gX c top (top + 1) (gX.length - (top + 1)) = some gE ∧ colL f gE c top = some (g', t') := by
                      exact Option.bind_eq_some_iff.1 (hcolT.out rfl)
                    obtain ⟨gE, hE1, hE2⟩ := hbd
                    rw [hlX.out] at hE1
                    replace hE1 := Lib.hid hE1
                    replace hE2 := Lib.hid hE2
                    go_wp2_with fail
                    go_loopg [10] (g.length - (top + 1)) (fun m s10 wr4 => ∃ (i j : Nat) (g3 : List (List Int)), s10 = .int .i64 i ∧ Hid (i = top + 1 + j) ∧ i + m = g.length ∧ Hid (elimTo gX c top (top + 1) j = some g3) ∧ GridIs wr4 ob oo hsX g3 ∧ Fx (gb ob hs) w wr4)
                    case atStart => exact ⟨top + 1, 0, gX, by go_num, rfl, by omega, rfl, hgX.out, hfX⟩
                    case round =>
                      clear hgX hfX
                      obtain ⟨i, j, g3, rfl, hij, him, he, hg3, hfx4⟩ := hrel
                      obtain ⟨hr3, hl3⟩ := elimTo_keeps hRX.out j g3 he.out (by rw [hlX.out]; have := hij.out; omega)
                      rw [hlX.out] at hl3
                      replace hr3 := Lib.hid hr3
                      have hl3' := hl3
                      replace hl3 := Lib.hid hl3
                      by_cases hil : i < g.length
                      · obtain ⟨g4, hg4⟩ := elimTo_mono (j + 1) (g.length - (top + 1)) gE hE1.out (by have := hij.out; omega)
                        have hstep : elim1 g3 c top i = some g4 := by
                          have := hg4
                          rw [elimTo, he.out] at this
                          rw [hij.out]
                          simpa using this
                        obtain ⟨sa, sb, hb0, r, htk, rfl⟩ := elim1_some hstep
                        have hj1 : i < g3.length := by omega
                        have ht1 : top < g3.length := by omega
                        obtain ⟨b1, o1, k1, hs1, ca1, cf1, ro1, bo1⟩ := hg3.at hj1
                        obtain ⟨b2, o2, k2, hs2, ca2, cf2, ro2, bo2⟩ := hg3.at ht1
                        have hb12 := hg3.apart i top _ _ hs1 hs2 (by have := hij.out; omega)
                        have ce1 := (ro1.2.2 c _ (ent_at hr3.out hj1 (by omega))).1
                        have ce2 := (ro2.2.2 c _ (ent_at hr3.out ht1 (by omega))).1
                        rw [hr3.out.row hj1] at ca1
                        rw [hr3.out.row ht1] at ca2
                        have hGr := hG1.out.fx hfx4 hG0.out.ge
                        have q0 : (0 : Int) ≤ (i : Int) := Int.natCast_nonneg _
                        have q1 : (i : Int) < (g.length : Int) := by omega
                        have q2 : (top : Int) < (g.length : Int) := by omega
                        have q3 : (c : Int) < (n : Int) := by omega
                        have q4 : (0 : Int) ≤ (top : Int) := Int.natCast_nonneg _
                        have q5 : (0 : Int) ≤ (c : Int) := Int.natCast_nonneg _
                        replace hg4 := Lib.hid hg4
                        replace htk := Lib.hid htk
                        replace hg3 := Lib.hid hg3
                        replace ro1 := Lib.hid ro1
                        replace ro2 := Lib.hid ro2
                        replace hs1 := Lib.hid hs1
                        replace hs2 := Lib.hid hs2
                        replace hstep := Lib.hid hstep
                        clear hl3'
                        go_wp2_with fail
                        go_region_held3 (fun w' => w'.cell? ⟨ob, oo + i, none⟩ = some (.slice (some ⟨b1, o1, none⟩) n k1) ∧ w'.cell? ⟨b1, o1 + c, none⟩ = some (.string (tx (ent g3 i c))) ∧ w'.cell? ⟨ob, oo + top, none⟩ = some (.slice (some ⟨b2, o2, none⟩) n k2) ∧ w'.cell? ⟨b2, o2 + c, none⟩ = some (.string (tx (ent g3 top c))))
                          (first | go_keep | (go_split_ands; refine ⟨?_, ?_, ?_, ?_⟩ <;> (refine Fr.keep (by assumption) ?_; assumption)))
                          (first | (go_at_call 192; refine (DivMod_sm _ _ sa sb hb0 _ (hGr.fr ?_)).mono ?_; (repeat (with_reducible first | assumption | exact Fr.refl _ | refine Fr.drew ?_ | refine Fr.drewN ?_ _ | refine Fr.alloc ?_ _ | (refine Fr.setCell ?_ (by simp only [World.size_alloc, World.size_drew, World.size_setCell]; omega) _) | refine Fr.trans ?_ (by assumption))); rintro e w1 ⟨rfl, hf1⟩))
                        have hfr : Fr wr w1 := by repeat (with_reducible first | assumption | exact Fr.refl _ | refine Fr.drew ?_ | refine Fr.drewN ?_ _ | refine Fr.alloc ?_ _ | (refine Fr.setCell ?_ (by simp only [World.size_alloc, World.size_drew, World.size_setCell]; omega) _) | refine Fr.trans ?_ (by assumption))
                        replace ca1 := hfr.keep (p := ⟨ob, oo + i, none⟩) ca1
                        replace ca2 := hfr.keep (p := ⟨ob, oo + top, none⟩) ca2
                        have len1 : (g3[i]).length = n := hr3.out.row hj1
                        have len2 : (g3[top]).length = n := hr3.out.row ht1
                        rw [rowAt_eq hj1, rowAt_eq ht1] at htk
                        replace len1 := Lib.hid len1
                        replace len2 := Lib.hid len2
                        go_wp2_with fail
                        go_region_held3 (fun w' => w'.cell? ⟨ob, oo + i, none⟩ = some (.slice (some ⟨b1, o1, none⟩) n k1) ∧ w'.cell? ⟨ob, oo + top, none⟩ = some (.slice (some ⟨b2, o2, none⟩) n k2))
                          (first | go_keep | (go_split_ands; refine ⟨?_, ?_⟩ <;> (refine Fx.keep (p := (· = b1)) (by assumption) (by assumption) (fun e => bo1 e.symm))))
                          (first | (go_at_call 255; refine (take_n b1 o1 k1 b2 o2 k2 n n _ _ _ r _ (hGr.fr ?_) (ro1.out.fr ?_) (ro2.out.fr ?_) hb12 (by rw [len1.out]; omega) len1.out len2.out htk.out).mono ?_; (repeat (with_reducible first | assumption | exact Fr.refl _ | refine Fr.drew ?_ | refine Fr.drewN ?_ _ | refine Fr.alloc ?_ _ | (refine Fr.setCell ?_ (by simp only [World.size_alloc, World.size_drew, World.size_setCell]; omega) _) | refine Fr.trans ?_ (by assumption))); (repeat (with_reducible first | assumption | exact Fr.refl _ | refine Fr.drew ?_ | refine Fr.drewN ?_ _ | refine Fr.alloc ?_ _ | (refine Fr.setCell ?_ (by simp only [World.size_alloc, World.size_drew, World.size_setCell]; omega) _) | refine Fr.trans ?_ (by assumption))); (repeat (with_reducible first | assumption | exact Fr.refl _ | refine Fr.drew ?_ | refine Fr.drewN ?_ _ | refine Fr.alloc ?_ _ | (refine Fr.setCell ?_ (by simp only [World.size_alloc, World.size_drew, World.size_setCell]; omega) _) | refine Fr.trans ?_ (by assumption))); rintro e w2 ⟨rfl, hfx5, hown5⟩))
                        have hgF := hg3.out.setRowF hs1.out hfx5 hown5 (fun xs h => by have h2 := takeS_len htk.out; rw [List.getElem?_eq_getElem hj1] at h; injection h with h; rw [← h]; exact h2) (by repeat (with_reducible first | assumption | exact Fr.refl _ | refine Fr.drew ?_ | refine Fr.drewN ?_ _ | refine Fr.alloc ?_ _ | (refine Fr.setCell ?_ (by simp only [World.size_alloc, World.size_drew, World.size_setCell]; omega) _) | refine Fr.trans ?_ (by assumption)))
                        have hfF := hfx4.via hfx5 (fun j hj => (hbX.out.1 j).1 (gb_mem hs1.out j hj)) (by repeat (with_reducible first | assumption | exact Fr.refl _ | refine Fr.drew ?_ | refine Fr.drewN ?_ _ | refine Fr.alloc ?_ _ | (refine Fr.setCell ?_ (by simp only [World.size_alloc, World.size_drew, World.size_setCell]; omega) _) | refine Fr.trans ?_ (by assumption)))
                        go_wp2_with fail
                        go_roundg (gk - 1)
                        case measure => omega
                        case rel => exact ⟨i + 1, j + 1, _, by go_num, by have := hij.out; show _ = _; omega, by omega, hg4.out, hgF, hfF⟩
                      · have hd2 : decide (i < g.length) = false := decide_eq_false hil
                        have hjj : j = g.length - (top + 1) := by have := hij.out; omega
                        have hge : g3 = gE := by
                          have h1 := he.out
                          rw [hjj, hE1.out] at h1
                          injection h1 with h1; exact h1.symm
                        subst hge
                        replace hjj := Lib.hid hjj
                        clear hl3'
                        go_wp2_with fail
                        go_roundg f
                        case measure => omega
                        case rel => exact ⟨g3, hsX, rfl, hE2, hg3, hr3, hl3, hbX, hfx4⟩
                  | false =>
                    have hbd : finS gX top c = some g' ∧ t' = top + 1 := by
                      have h := hcolF.out rfl
                      obtain ⟨g4, h1, h2⟩ := Option.map_eq_some_iff.1 h
                      injection h2 with h2 h3
                      subst h2
                      exact ⟨h1, h3.symm⟩
                    obtain ⟨hE1, rfl⟩ := hbd
                    have hGX := hG1.out.fx hfX hG0.out.ge
                    have hfin := finish_any ob oo oc hsX gX g' n top c W hGX hgX.out hRX.out hn (by rw [hlX.out]; exact hl) (by rw [hlX.out]; exact htl) (by omega) hE1
                    rw [hlX.out] at hfin
                    have hfinL := Lib.hid (finS_keeps hE1 hRX.out (by rw [hlX.out]; exact htl))
                    replace hE1 := Lib.hid hE1
                    replace hGX := Lib.hid hGX
                    go_wp2_with fail
                    refine hfin.mono ?_
                    rintro e w5 ⟨rfl, hfx5, hg5⟩
                    replace hg5 := Lib.hid hg5
                    clear hfin
                    have hfx6 := hfX.via hfx5 (fun j hj => (hbX.out.1 j).1 hj) (Fr.refl _)
                    go_wp2_with fail
                    go_roundg k
                    case measure => omega
                    case rel => exact ⟨c + 1, top + 1, g', hsX, by go_num, by go_num, by omega, by omega, hc2, hg5, hfinL.out.1, by show _ = _; rw [hfinL.out.2, hlX.out], hbX, hfx6⟩
                · replace hcolT := Lib.hid hcolT
                  replace hcolF := Lib.hid hcolF
                  replace hst := Lib.hid hst
                  replace hsq := Lib.hid hsq
                  go_wp2_with fail
                  go_region
                  have hgt := List.getElem?_eq_getElem (show top < g2.length by rw [hln2]; exact htl)
                  have hgq := List.getElem?_eq_getElem (show q < g2.length by rw [hln2]; exact hq2)
                  have hgX0 := (hgr3.out.swap hst.out hsq.out hgt hgq htq).fr (Fr.refl _).drew
                  rw [hr2.out.row (by rw [hln2]; exact hq2), hr2.out.row (by rw [hln2]; exact htl)] at hgX0
                  have hgX : GridIs ((wr.setCell ⟨ob, oo + top, none⟩ (.slice (some ⟨bq, oq, none⟩) n kq)).setCell ⟨ob, oo + q, none⟩ (.slice (some ⟨bt, ot, none⟩) n kt)).drew ob oo (swp hs2 top q) (swp g2 top q) := hgX0
                  have hfX : Fx (gb ob hs) w ((wr.setCell ⟨ob, oo + top, none⟩ (.slice (some ⟨bq, oq, none⟩) n kq)).setCell ⟨ob, oo + q, none⟩ (.slice (some ⟨bt, ot, none⟩) n kt)).drew :=
                    ((hfx3.setCell (q := ⟨ob, oo + top, none⟩) (.inl (.inl rfl)) _).setCell (q := ⟨ob, oo + q, none⟩) (.inl (.inl rfl)) _).drew
                  generalize ((wr.setCell ⟨ob, oo + top, none⟩ (.slice (some ⟨bq, oq, none⟩) n kq)).setCell ⟨ob, oo + q, none⟩ (.slice (some ⟨bt, ot, none⟩) n kt)).drew = W at hgX hfX ⊢
                  have hRX := Lib.hid (swp_rect (i := top) (j := q) hr2.out)
                  have hlX := Lib.hid (show (swp g2 top q).length = g.length by rw [swp_len]; exact hln2)
                  have hbX := Lib.hid (show Same ob (swp hs2 top q) hs from ⟨fun k => (gb_swp hst.out hsq.out k).trans (hb2.out.1 k), fun h hm => hb2.out.2 h (swp_mem hm)⟩)
                  clear hgX0 hg2 hr2 hl2 hb2 hfx2 hgr3 hfx3 hst hsq cat caq cft cfq rot roq hc1 hq3 hsm hln2 hij hd hgt hgq
                  generalize swp g2 top q = gX at *
                  generalize swp hs2 top q = hsX at *
                  replace hgX := Lib.hid hgX
                  cases mo with
                  | true =>
                    have hbd : ∃ gE, elimTo gX c top (top + 1) (gX.length - (top + 1)) = some gE ∧ colL f gE c top = some (g', t') := by
                      exact Option.bind_eq_some_iff.1 (hcolT.out rfl)
                    obtain ⟨gE, hE1, hE2⟩ := hbd
                    rw [hlX.out] at hE1
                    replace hE1 := Lib.hid hE1
                    replace hE2 := Lib.hid hE2
                    go_wp2_with fail
                    go_loopg [10] (g.length - (top + 1)) (fun m s10 wr4 => ∃ (i j : Nat) (g3 : List (List Int)), s10 = .int .i64 i ∧ Hid (i = top + 1 + j) ∧ i + m = g.length ∧ Hid (elimTo gX c top (top + 1) j = some g3) ∧ GridIs wr4 ob oo hsX g3 ∧ Fx (gb ob hs) w wr4)
                    case atStart => exact ⟨top + 1, 0, gX, by go_num, rfl, by omega, rfl, hgX.out, hfX⟩
                    case round =>
                      clear hgX hfX
                      obtain ⟨i, j, g3, rfl, hij, him, he, hg3, hfx4⟩ := hrel
                      obtain ⟨hr3, hl3⟩ := elimTo_keeps hRX.out j g3 he.out (by rw [hlX.out]; have := hij.out; omega)
                      rw [hlX.out] at hl3
                      replace hr3 := Lib.hid hr3
                      have hl3' := hl3
                      replace hl3 := Lib.hid hl3
                      by_cases hil : i < g.length
                      · obtain ⟨g4, hg4⟩ := elimTo_mono (j + 1) (g.length - (top + 1)) gE hE1.out (by have := hij.out; omega)
                        have hstep : elim1 g3 c top i = some g4 := by
                          have := hg4
                          rw [elimTo, he.out] at this
                          rw [hij.out]
                          simpa using this
                        obtain ⟨sa, sb, hb0, r, htk, rfl⟩ := elim1_some hstep
                        have hj1 : i < g3.length := by omega
                        have ht1 : top < g3.length := by omega
                        obtain ⟨b1, o1, k1, hs1, ca1, cf1, ro1, bo1⟩ := hg3.at hj1
                        obtain ⟨b2, o2, k2, hs2, ca2, cf2, ro2, bo2⟩ := hg3.at ht1
                        have hb12 := hg3.apart i top _ _ hs1 hs2 (by have := hij.out; omega)
                        have ce1 := (ro1.2.2 c _ (ent_at hr3.out hj1 (by omega))).1
                        have ce2 := (ro2.2.2 c _ (ent_at hr3.out ht1 (by omega))).1
                        rw [hr3.out.row hj1] at ca1
                        rw [hr3.out.row ht1] at ca2
                        have hGr := hG1.out.fx hfx4 hG0.out.ge
                        have q0 : (0 : Int) ≤ (i : Int) := Int.natCast_nonneg _
                        have q1 : (i : Int) < (g.length : Int) := by omega
                        have q2 : (top : Int) < (g.length : Int) := by omega
                        have q3 : (c : Int) < (n : Int) := by omega
                        have q4 : (0 : Int) ≤ (top : Int) := Int.natCast_nonneg _
                        have q5 : (0 : Int) ≤ (c : Int) := Int.natCast_nonneg _
                        replace hg4 := Lib.hid hg4
                        replace htk := Lib.hid htk
                        replace hg3 := Lib.hid hg3
                        replace ro1 := Lib.hid ro1
                        replace ro2 := Lib.hid ro2
                        replace hs1 := Lib.hid hs1
                        replace hs2 := Lib.hid hs2
                        replace hstep := Lib.hid hstep
                        clear hl3'
                        go_wp2_with fail
                        go_region_held3 (fun w' => w'.cell? ⟨ob, oo + i, none⟩ = some (.slice (some ⟨b1, o1, none⟩) n k1) ∧ w'.cell? ⟨b1, o1 + c, none⟩ = some (.string (tx (ent g3 i c))) ∧ w'.cell? ⟨ob, oo + top, none⟩ = some (.slice (some ⟨b2, o2, none⟩) n k2) ∧ w'.cell? ⟨b2, o2 + c, none⟩ = some (.string (tx (ent g3 top c))))
                          (first | go_keep | (go_split_ands; refine ⟨?_, ?_, ?_, ?_⟩ <;> (refine Fr.keep (by assumption) ?_; assumption)))
                          (first | (go_at_call 192; refine (DivMod_sm _ _ sa sb hb0 _ (hGr.fr ?_)).mono ?_; (repeat (with_reducible first | assumption | exact Fr.refl _ | refine Fr.drew ?_ | refine Fr.drewN ?_ _ | refine Fr.alloc ?_ _ | (refine Fr.setCell ?_ (by simp only [World.size_alloc, World.size_drew, World.size_setCell]; omega) _) | refine Fr.trans ?_ (by assumption))); rintro e w1 ⟨rfl, hf1⟩))
                        have hfr : Fr wr w1 := by repeat (with_reducible first | assumption | exact Fr.refl _ | refine Fr.drew ?_ | refine Fr.drewN ?_ _ | refine Fr.alloc ?_ _ | (refine Fr.setCell ?_ (by simp only [World.size_alloc, World.size_drew, World.size_setCell]; omega) _) | refine Fr.trans ?_ (by assumption))
                        replace ca1 := hfr.keep (p := ⟨ob, oo + i, none⟩) ca1
                        replace ca2 := hfr.keep (p := ⟨ob, oo + top, none⟩) ca2
                        have len1 : (g3[i]).length = n := hr3.out.row hj1
                        have len2 : (g3[top]).length = n := hr3.out.row ht1
                        rw [rowAt_eq hj1, rowAt_eq ht1] at htk
                        replace len1 := Lib.hid len1
                        replace len2 := Lib.hid len2
                        go_wp2_with fail
                        go_region_held3 (fun w' => w'.cell? ⟨ob, oo + i, none⟩ = some (.slice (some ⟨b1, o1, none⟩) n k1) ∧ w'.cell? ⟨ob, oo + top, none⟩ = some (.slice (some ⟨b2, o2, none⟩) n k2))
                          (first | go_keep | (go_split_ands; refine ⟨?_, ?_⟩ <;> (refine Fx.keep (p := (· = b1)) (by assumption) (by assumption) (fun e => bo1 e.symm))))
                          (first | (go_at_call 255; refine (take_n b1 o1 k1 b2 o2 k2 n n _ _ _ r _ (hGr.fr ?_) (ro1.out.fr ?_) (ro2.out.fr ?_) hb12 (by rw [len1.out]; omega) len1.out len2.out htk.out).mono ?_; (repeat (with_reducible first | assumption | exact Fr.refl _ | refine Fr.drew ?_ | refine Fr.drewN ?_ _ | refine Fr.alloc ?_ _ | (refine Fr.setCell ?_ (by simp only [World.size_alloc, World.size_drew, World.size_setCell]; omega) _) | refine Fr.trans ?_ (by assumption))); (repeat (with_reducible first | assumption | exact Fr.refl _ | refine Fr.drew ?_ | refine Fr.drewN ?_ _ | refine Fr.alloc ?_ _ | (refine Fr.setCell ?_ (by simp only [World.size_alloc, World.size_drew, World.size_setCell]; omega) _) | refine Fr.trans ?_ (by assumption))); (repeat (with_reducible first | assumption | exact Fr.refl _ | refine Fr.drew ?_ | refine Fr.drewN ?_ _ | refine Fr.alloc ?_ _ | (refine Fr.setCell ?_ (by simp only [World.size_alloc, World.size_drew, World.size_setCell]; omega) _) | refine Fr.trans ?_ (by assumption))); rintro e w2 ⟨rfl, hfx5, hown5⟩))
                        have hgF := hg3.out.setRowF hs1.out hfx5 hown5 (fun xs h => by have h2 := takeS_len htk.out; rw [List.getElem?_eq_getElem hj1] at h; injection h with h; rw [← h]; exact h2) (by repeat (with_reducible first | assumption | exact Fr.refl _ | refine Fr.drew ?_ | refine Fr.drewN ?_ _ | refine Fr.alloc ?_ _ | (refine Fr.setCell ?_ (by simp only [World.size_alloc, World.size_drew, World.size_setCell]; omega) _) | refine Fr.trans ?_ (by assumption)))
                        have hfF := hfx4.via hfx5 (fun j hj => (hbX.out.1 j).1 (gb_mem hs1.out j hj)) (by repeat (with_reducible first | assumption | exact Fr.refl _ | refine Fr.drew ?_ | refine Fr.drewN ?_ _ | refine Fr.alloc ?_ _ | (refine Fr.setCell ?_ (by simp only [World.size_alloc, World.size_drew, World.size_setCell]; omega) _) | refine Fr.trans ?_ (by assumption)))
                        go_wp2_with fail
                        go_roundg (gk - 1)
                        case measure => omega
                        case rel => exact ⟨i + 1, j + 1, _, by go_num, by have := hij.out; show _ = _; omega, by omega, hg4.out, hgF, hfF⟩
                      · have hd2 : decide (i < g.length) = false := decide_eq_false hil
                        have hjj : j = g.length - (top + 1) := by have := hij.out; omega
                        have hge : g3 = gE := by
                          have h1 := he.out
                          rw [hjj, hE1.out] at h1
                          injection h1 with h1; exact h1.symm
                        subst hge
                        replace hjj := Lib.hid hjj
                        clear hl3'
                        go_wp2_with fail
                        go_roundg f
                        case measure => omega
                        case rel => exact ⟨g3, hsX, rfl, hE2, hg3, hr3, hl3, hbX, hfx4⟩
                  | false =>
                    have hbd : finS gX top c = some g' ∧ t' = top + 1 := by
                      have h := hcolF.out rfl
                      obtain ⟨g4, h1, h2⟩ := Option.map_eq_some_iff.1 h
                      injection h2 with h2 h3
                      subst h2
                      exact ⟨h1, h3.symm⟩
                    obtain ⟨hE1, rfl⟩ := hbd
                    have hGX := hG1.out.fx hfX hG0.out.ge
                    have hfin := finish_any ob oo oc hsX gX g' n top c W hGX hgX.out hRX.out hn (by rw [hlX.out]; exact hl) (by rw [hlX.out]; exact htl) (by omega) hE1
                    rw [hlX.out] at hfin
                    have hfinL := Lib.hid (finS_keeps hE1 hRX.out (by rw [hlX.out]; exact htl))
                    replace hE1 := Lib.hid hE1
                    replace hGX := Lib.hid hGX
                    go_wp2_with fail
                    refine hfin.mono ?_
                    rintro e w5 ⟨rfl, hfx5, hg5⟩
                    replace hg5 := Lib.hid hg5
                    clear hfin
                    have hfx6 := hfX.via hfx5 (fun j hj => (hbX.out.1 j).1 hj) (Fr.refl _)
                    go_wp2_with fail
                    go_roundg k
                    case measure => omega
                    case rel => exact ⟨c + 1, top + 1, g', hsX, by go_num, by go_num, by omega, by omega, hc2, hg5, hfinL.out.1, by show _ = _; rw [hfinL.out.2, hlX.out], hbX, hfx6⟩
      · have hfin : gF = g1 ∧ tF = top := by
          have h := hh1.out
          cases gk with
          | zero => rw [herm] at h; injection h with h; injection h with h1 h2; exact ⟨h1.symm, h2.symm⟩
          | succ k => rw [herm, if_neg (by rw [hl1.out]; exact htl)] at h; injection h with h; injection h with h1 h2; exact ⟨h1.symm, h2.symm⟩
        obtain ⟨rfl, rfl⟩ := hfin
        have htl2 : decide (tF < g.length) = false := decide_eq_false htl
        go_wp2_with fail
        go_ret
        exact ⟨rfl, htop, hl1.out, hr1.out, hs1, hb1.out, hfx1, hg1.out⟩
    · have hfin : gF = g1 ∧ tF = top := by
        have h := hh1.out
        obtain rfl : gk = 0 := by omega
        rw [herm] at h; injection h with h; injection h with h1 h2; exact ⟨h1.symm, h2.symm⟩
      obtain ⟨rfl, rfl⟩ := hfin
      have hcc2 : decide (c < cols) = false := decide_eq_false hcc
      go_wp2_with fail
      go_ret
      exact ⟨rfl, htop, hl1.out, hr1.out, hs1, hb1.out, hfx1, hg1.out⟩
end Go.Proofs.YtbpfkmpkadimeaaGreatDoor

/- Grids that grow: rows of integer texts, appended one after another to a slice of the call's own. -/
namespace Go.Proofs.YtbpfkmpkadimeaaGreatDoor
open Go.RowKit Go.Lib

theorem Fx.of_grown {w w' : World} {row : Option Nat} (h : w.grownBy w' row) : Fx (fun k => row = some k) w w' :=
  ⟨h.os, h.tape, h.output, h.size, fun k hk hp => h.block k hk (fun e => hp e.symm)⟩

theorem ownsRow_fx {w w' : World} {p : Nat → Prop} {base : Nat} {e : TypeId} {size : Nat} {v : Value} {n : Nat} {xs : List Value} (h : w.ownsRow base e size v n xs) (k : Fx p w w') (hp : ∀ g, v.ownBlock = some g → ¬ p g) : w'.ownsRow base e size v n xs := by
  obtain ⟨h1, h2⟩ := h
  refine ⟨h1, ?_⟩
  rcases h2 with h2 | ⟨g, cap, cur, rfl, hg, hh, r⟩
  · exact .inl h2
  · have hlt : g < w.heap.size := by
      by_cases hl : g < w.heap.size
      · exact hl
      · rw [Array.getElem?_eq_none (by omega)] at hh; simp at hh
    exact .inr ⟨g, cap, cur, rfl, hg, by rw [k.block g hlt (hp g rfl)]; exact hh, r⟩
theorem ownsRow_fr {w w' : World} {base : Nat} {e : TypeId} {size : Nat} {v : Value} {n : Nat} {xs : List Value} (h : w.ownsRow base e size v n xs) (k : Fr w w') : w'.ownsRow base e size v n xs :=
  ownsRow_fx (p := fun _ => False) h (Fx.of_fr k) (fun _ _ e => e)

theorem cell_one_newN (w : World) (x : Value) (t : TypeId) (n : Nat) (hn : w.heap.size = n) : ∀ j u, [x][j]? = some u → (w.alloc (.cells #[x] t)).cell? ((⟨n, 0, none⟩ : Addr).add j) = some u := by
  subst hn; exact cell_one_new w x t
theorem new_cell (w : World) (x : Value) (t : TypeId) : (w.alloc (.cells #[x] t)).cell? ⟨w.heap.size, 0, none⟩ = some x := cell_one_new w x t 0 x rfl

theorem ownsRow_some {w : World} {base : Nat} {e : TypeId} {size : Nat} {g n m cap : Nat} {xs : List Value} (h : w.ownsRow base e size (.slice (some ⟨g, 0, none⟩) n cap) m xs) :
    n = m ∧ base ≤ g ∧ g < w.heap.size ∧ n ≤ cap ∧ ∀ j u, xs[j]? = some u → w.cell? ⟨g, j, none⟩ = some u ∧ w.frozen? ⟨g, j, none⟩ = false := by
  obtain ⟨h1, h2⟩ := h
  rcases h2 with ⟨h2, _⟩ | ⟨g', cap', cur, hv, hg, hh, hn, hc, hs, ht⟩
  · cases h2
  · injection hv with hv1 hv2 hv3
    injection hv1 with hv1; injection hv1 with hv1
    subst hv1; subst hv2; subst hv3
    have hlt : g < w.heap.size := by
      by_cases hl : g < w.heap.size
      · exact hl
      · rw [Array.getElem?_eq_none (by omega)] at hh; simp at hh
    refine ⟨rfl, hg, hlt, hn, fun j u hu => ?_⟩
    have hju : cur[j]? = some u := by
      rw [← ht, List.getElem?_take] at hu
      split at hu
      · simpa using hu
      · simp at hu
    exact ⟨by simp [World.cell?, hh, hju], by simp [World.frozen?, hh]⟩

/-- a row of integer texts that the call has made -/
theorem ownsRow_own {w : World} {base : Nat} {e : TypeId} {g n m cap : Nat} {xs : List Int} (hb : gN ≤ base) (h : w.ownsRow base e 1 (.slice (some ⟨g, 0, none⟩) n cap) m (xs.map sv)) : Own w g 0 xs ∧ n = m ∧ m = xs.length ∧ base ≤ g ∧ n ≤ cap := by
  have h1 := h.1
  obtain ⟨a, b, c, d, f⟩ := ownsRow_some h
  refine ⟨⟨by omega, c, fun j x hx => ?_⟩, a, by simpa using h1.symm, b, d⟩
  have := f j (sv x) (by rw [List.getElem?_map, hx]; rfl)
  simpa using this

theorem ownsRow_pos {w : World} {base : Nat} {e : TypeId} {size : Nat} {v : Value} {n : Nat} {xs : List Value} (h : w.ownsRow base e size v n xs) (hn : 0 < n) : ∃ g cap, v = .slice (some ⟨g, 0, none⟩) n cap := by
  obtain ⟨_, h2⟩ := h
  rcases h2 with ⟨_, h2⟩ | ⟨g, cap, _, hv, _⟩
  · omega
  · exact ⟨g, cap, hv⟩

def hdr (h : Nat × Nat × Nat) (xs : List Int) : Value := .slice (some ⟨h.1, h.2.1, none⟩) xs.length h.2.2
def hdrs (hs : List (Nat × Nat × Nat)) (g : List (List Int)) : List Value := List.zipWith hdr hs g

structure GG (w : World) (base : Nat) (E : TypeId) (v : Value) (hs : List (Nat × Nat × Nat)) (g : List (List Int)) : Prop where
  gbase : gN ≤ base
  len : hs.length = g.length
  own : w.ownsRow base E 1 v g.length (hdrs hs g)
  row : ∀ (i : Nat) (h : Nat × Nat × Nat) (xs : List Int), hs[i]? = some h → g[i]? = some xs → Own w h.1 h.2.1 xs ∧ v.ownBlock ≠ some h.1
  apart : ∀ (i j : Nat) (hi hj : Nat × Nat × Nat), hs[i]? = some hi → hs[j]? = some hj → i ≠ j → hi.1 ≠ hj.1

theorem GG.nil (w : World) (base : Nat) (E : TypeId) (h : gN ≤ base) : GG w base E (.slice none 0 0) [] [] :=
  ⟨h, rfl, World.ownsRow_nil _ _ _ _, fun i h xs h1 => by simp at h1, fun i j hi hj h1 => by simp at h1⟩
theorem GG.fr {w w' : World} {base : Nat} {E : TypeId} {v : Value} {hs : List (Nat × Nat × Nat)} {g : List (List Int)} (h : GG w base E v hs g) (k : Fr w w') : GG w' base E v hs g :=
  ⟨h.gbase, h.len, ownsRow_fr h.own k, fun i hd xs h1 h2 => ⟨(h.row i hd xs h1 h2).1.fr k, (h.row i hd xs h1 h2).2⟩, h.apart⟩
theorem GG.lt {w : World} {base : Nat} {E : TypeId} {v : Value} {hs : List (Nat × Nat × Nat)} {g : List (List Int)} (h : GG w base E v hs g) : ∀ hd, hd ∈ hs → hd.1 < w.heap.size := fun hd hm => by
  obtain ⟨i, hi⟩ := List.getElem?_of_mem hm
  have hl : i < g.length := by rw [← h.len]; exact (List.getElem?_eq_some_iff.1 hi).1
  exact (h.row i hd _ hi (List.getElem?_eq_getElem hl)).1.2.1
theorem hdrs_push (hs : List (Nat × Nat × Nat)) (g : List (List Int)) (h : Nat × Nat × Nat) (xs : List Int) (hl : hs.length = g.length) : hdrs (hs ++ [h]) (g ++ [xs]) = hdrs hs g ++ [hdr h xs] := by
  unfold hdrs; rw [List.zipWith_append hl]; rfl

/-- behind an append of a row's header -/
theorem GG.push {w w' : World} {base : Nat} {E : TypeId} {v : Value} {hs : List (Nat × Nat × Nat)} {g : List (List Int)} (h : GG w base E v hs g) {hd : Nat × Nat × Nat} {xs : List Int} (ho : Own w hd.1 hd.2.1 xs)
    (hne : ∀ h', h' ∈ hs → h'.1 ≠ hd.1) (hv : v.ownBlock ≠ some hd.1) {gb cap : Nat} (hown : w'.ownsRow base E 1 (.slice (some ⟨gb, 0, none⟩) (g.length + 1) cap) (g.length + 1) (hdrs hs g ++ [hdr hd xs]))
    (hg : w.grownBy w' v.ownBlock) (hat : v.ownBlock = some gb ∨ w.heap.size ≤ gb) : GG w' base E (.slice (some ⟨gb, 0, none⟩) (g.length + 1) cap) (hs ++ [hd]) (g ++ [xs]) := by
  have hfx := Fx.of_grown hg
  have hrow : ∀ (i : Nat) (h0 : Nat × Nat × Nat) (ys : List Int), hs[i]? = some h0 → g[i]? = some ys → Own w' h0.1 h0.2.1 ys ∧ gb ≠ h0.1 := fun i h0 ys h1 h2 => by
    obtain ⟨a, b⟩ := h.row i h0 ys h1 h2
    refine ⟨a.fx hfx (fun e => b e), ?_⟩
    rcases hat with e | e
    · intro e2; rw [e2] at e; exact b e
    · have := a.2.1; omega
  refine ⟨h.gbase, by simp [h.len], ?_, fun i h0 ys h1 h2 => ?_, fun i j hi hj h1 h2 hij => ?_⟩
  · rw [hdrs_push _ _ _ _ h.len]; simpa using hown
  · by_cases hi : i < g.length
    · rw [List.getElem?_append_left (by rw [h.len]; exact hi)] at h1
      rw [List.getElem?_append_left hi] at h2
      obtain ⟨a, b⟩ := hrow i h0 ys h1 h2
      exact ⟨a, fun e => by injection e with e; exact b e⟩
    · rw [List.getElem?_append_right (by omega)] at h2
      rw [List.getElem?_append_right (by rw [h.len]; omega)] at h1
      rw [List.getElem?_singleton] at h1 h2
      split at h1
      · split at h2
        · injection h1 with h1; injection h2 with h2; subst h1; subst h2
          refine ⟨ho.fx hfx (fun e => hv e), fun e => ?_⟩
          injection e with e
          rcases hat with e2 | e2
          · have e3 : gb = hd.1 := e
            rw [e3] at e2; exact hv e2
          · have := ho.2.1
            have e3 : gb = hd.1 := e
            omega
        · simp at h2
      · simp at h1
  · have key : ∀ (i : Nat) (h0 : Nat × Nat × Nat), (hs ++ [hd])[i]? = some h0 → (i < hs.length ∧ hs[i]? = some h0) ∨ (i = hs.length ∧ h0 = hd) := fun i h0 h => by
      by_cases hi : i < hs.length
      · rw [List.getElem?_append_left hi] at h; exact .inl ⟨hi, h⟩
      · rw [List.getElem?_append_right (by omega), List.getElem?_singleton] at h
        split at h
        · injection h with h; exact .inr ⟨by omega, h.symm⟩
        · simp at h
    rcases key i hi h1 with ⟨a1, a2⟩ | ⟨a1, a2⟩ <;> rcases key j hj h2 with ⟨b1, b2⟩ | ⟨b1, b2⟩
    · exact h.apart i j _ _ a2 b2 hij
    · subst b2; exact hne _ (List.mem_of_getElem? a2)
    · subst a2; exact (hne _ (List.mem_of_getElem? b2)).symm
    · omega

theorem GG.pushN {w w' : World} {base : Nat} {E : TypeId} {v u : Value} {hs : List (Nat × Nat × Nat)} {g : List (List Int)} (h : GG w base E v hs g) {hd : Nat × Nat × Nat} {xs : List Int} (ho : Own w hd.1 hd.2.1 xs)
    (hne : ∀ h', h' ∈ hs → h'.1 ≠ hd.1) (hv : v.ownBlock ≠ some hd.1) {gb cap n : Nat} (hn : g.length = n) (hu : u = hdr hd xs) (hown : w'.ownsRow base E 1 (.slice (some ⟨gb, 0, none⟩) (n + 1) cap) (n + 1) (hdrs hs g ++ [u]))
    (hg : w.grownBy w' v.ownBlock) (hat : v.ownBlock = some gb ∨ w.heap.size ≤ gb) : GG w' base E (.slice (some ⟨gb, 0, none⟩) (n + 1) cap) (hs ++ [hd]) (g ++ [xs]) := by
  subst hn; subst hu
  exact h.push ho hne hv hown hg hat

theorem GG.grid {w : World} {base : Nat} {E : TypeId} {gb n cap : Nat} {hs : List (Nat × Nat × Nat)} {g : List (List Int)} (h : GG w base E (.slice (some ⟨gb, 0, none⟩) n cap) hs g) : GridIs w gb 0 hs g ∧ n = g.length ∧ base ≤ gb ∧ n ≤ cap := by
  obtain ⟨a, b, c, d, f⟩ := ownsRow_some h.own
  refine ⟨⟨h.len, c, Nat.le_trans h.gbase b, fun i hd xs h1 h2 => ?_, fun i hd xs h1 h2 => ?_, h.apart⟩, a, b, d⟩
  · have := f i (hdr hd xs) (by unfold hdrs; rw [List.getElem?_zipWith, h1, h2])
    simpa [hdr] using this
  · obtain ⟨p, q⟩ := h.row i hd xs h1 h2
    exact ⟨p, fun e => q (by simp [Value.ownBlock, e])⟩

theorem ownsRow_mono {w : World} {base base' : Nat} {e : TypeId} {size : Nat} {v : Value} {n : Nat} {xs : List Value} (h : w.ownsRow base e size v n xs) (hb : base' ≤ base) : w.ownsRow base' e size v n xs := by
  obtain ⟨h1, h2⟩ := h
  refine ⟨h1, ?_⟩
  rcases h2 with h2 | ⟨g, cap, cur, hv, hg, r⟩
  · exact .inl h2
  · exact .inr ⟨g, cap, cur, hv, Nat.le_trans hb hg, r⟩

/-- rows that lie at the head of a block of their own, and can be appended to -/
def Rows0 (w : World) (hs : List (Nat × Nat × Nat)) (g : List (List Int)) : Prop :=
  ∀ (i : Nat) (h : Nat × Nat × Nat) (xs : List Int), hs[i]? = some h → g[i]? = some xs → h.2.1 = 0 ∧ w.ownsRow gN 42 1 (.slice (some ⟨h.1, 0, none⟩) xs.length h.2.2) xs.length (xs.map sv)
theorem Rows0.nil (w : World) : Rows0 w [] [] := fun i h xs h1 => by simp at h1
theorem Rows0.fx {w w' : World} {p : Nat → Prop} {hs : List (Nat × Nat × Nat)} {g : List (List Int)} (h : Rows0 w hs g) (k : Fx p w w') (hp : ∀ hd, hd ∈ hs → ¬ p hd.1) : Rows0 w' hs g := fun i hd xs h1 h2 => by
  obtain ⟨a, b⟩ := h i hd xs h1 h2
  refine ⟨a, ownsRow_fx b k (fun g hg => ?_)⟩
  have e : hd.1 = g := by simpa [Value.ownBlock] using hg
  rw [← e]
  exact hp hd (List.mem_of_getElem? h1)
theorem Rows0.fr {w w' : World} {hs : List (Nat × Nat × Nat)} {g : List (List Int)} (h : Rows0 w hs g) (k : Fr w w') : Rows0 w' hs g :=
  h.fx (p := fun _ => False) (Fx.of_fr k) (fun _ _ e => e)
theorem Rows0.push {w : World} {hs : List (Nat × Nat × Nat)} {g : List (List Int)} (h : Rows0 w hs g) (hl : hs.length = g.length) {hd : Nat × Nat × Nat} {xs : List Int} (h0 : hd.2.1 = 0)
    (ho : w.ownsRow gN 42 1 (.slice (some ⟨hd.1, 0, none⟩) xs.length hd.2.2) xs.length (xs.map sv)) : Rows0 w (hs ++ [hd]) (g ++ [xs]) := fun i h1 ys k1 k2 => by
  by_cases hi : i < g.length
  · rw [List.getElem?_append_left (by rw [hl]; exact hi)] at k1
    rw [List.getElem?_append_left hi] at k2
    exact h i h1 ys k1 k2
  · rw [List.getElem?_append_right (by omega), List.getElem?_singleton] at k2
    rw [List.getElem?_append_right (by rw [hl]; omega), List.getElem?_singleton] at k1
    split at k1
    · split at k2
      · injection k1 with k1; injection k2 with k2; subst k1; subst k2; exact ⟨h0, ho⟩
      · simp at k2
    · simp at k1

/-- a row gets another place -/
theorem GridIs.setHead {w w1 : World} {ob oo : Nat} {hs : List (Nat × Nat × Nat)} {g : List (List Int)} (h : GridIs w ob oo hs g) {i : Nat} {hd hd' : Nat × Nat × Nat} {xs' : List Int} (hi : hs[i]? = some hd)
    (hf : Fx (· = hd.1) w w1) (ho : Own w1 hd'.1 hd'.2.1 xs') (hat : hd'.1 = hd.1 ∨ w.heap.size ≤ hd'.1) :
    GridIs (w1.setCell ⟨ob, oo + i, none⟩ (hdr hd' xs')) ob oo (hs.set i hd') (g.set i xs') := by
  have hl : i < g.length := by rw [← h.len]; exact (List.getElem?_eq_some_iff.1 hi).1
  have hii := List.getElem?_eq_getElem hl
  have hc := h.cell i _ _ hi hii
  have hr := h.row i _ _ hi hii
  have hcw1 : w1.cell? ⟨ob, oo + i, none⟩ = _ := hf.keep hc.1 (fun e => hr.2 e.symm)
  have hs2 : Fx (· = ob) w1 (w1.setCell ⟨ob, oo + i, none⟩ (hdr hd' xs')) := Fx.setCell (p := (· = ob)) (q := ⟨ob, oo + i, none⟩) (Fx.refl _ w1) (.inl rfl) _
  have hne' : hd'.1 ≠ ob := by
    rcases hat with e | e
    · rw [e]; exact hr.2
    · have := h.outer; omega
  refine ⟨by simp [h.len], Nat.lt_of_lt_of_le h.outer (Nat.le_trans hf.size hs2.size), h.gob, fun j k ys k1 k2 => ?_, fun j k ys k1 k2 => ?_, fun a b ha hb k1 k2 hab => ?_⟩
  · rw [List.getElem?_set] at k1 k2
    rw [World.frozen?_setCell]
    by_cases e : i = j
    · subst e
      rw [if_pos rfl, if_pos hl] at k2
      rw [if_pos rfl, if_pos (by rw [h.len]; exact hl)] at k1
      injection k1 with k1; injection k2 with k2; subst k1; subst k2
      exact ⟨World.cell?_setCell_same' _ _ _ (by rw [hcw1]; rfl), hf.keepf hc.1 hc.2 (fun e => hr.2 e.symm)⟩
    · rw [if_neg e] at k1 k2
      have e3 : (⟨ob, oo + i, none⟩ : Addr) ≠ ⟨ob, oo + j, none⟩ := fun e2 => by injection e2 with _ e2; omega
      have h3 := h.cell j k ys k1 k2
      rw [World.cell?_setCell_other _ _ _ _ e3]
      exact ⟨hf.keep h3.1 (fun e => hr.2 e.symm), hf.keepf h3.1 h3.2 (fun e => hr.2 e.symm)⟩
  · rw [List.getElem?_set] at k1 k2
    by_cases e : i = j
    · subst e
      rw [if_pos rfl, if_pos hl] at k2
      rw [if_pos rfl, if_pos (by rw [h.len]; exact hl)] at k1
      injection k1 with k1; injection k2 with k2; subst k1; subst k2
      exact ⟨ho.fx hs2 hne', hne'⟩
    · rw [if_neg e] at k1 k2
      have h3 := h.row j k ys k1 k2
      exact ⟨(h3.1.fx hf (h.apart j i _ _ k1 hi (fun e2 => e e2.symm))).fx hs2 h3.2, h3.2⟩
  · have key : ∀ (j : Nat) (k : Nat × Nat × Nat), (hs.set i hd')[j]? = some k → (j = i ∧ k = hd') ∨ (j ≠ i ∧ hs[j]? = some k) := fun j k hk => by
      rw [List.getElem?_set] at hk
      by_cases e : i = j
      · subst e
        rw [if_pos rfl, if_pos (by rw [h.len]; exact hl)] at hk
        injection hk with hk; exact .inl ⟨rfl, hk.symm⟩
      · rw [if_neg e] at hk; exact .inr ⟨fun e2 => e e2.symm, hk⟩
    have far : ∀ (j : Nat) (k : Nat × Nat × Nat), j ≠ i → hs[j]? = some k → k.1 ≠ hd'.1 := fun j k hj hk => by
      rcases hat with e | e
      · rw [e]; exact h.apart j i _ _ hk hi hj
      · have hjl : j < g.length := by rw [← h.len]; exact (List.getElem?_eq_some_iff.1 hk).1
        have := (h.row j k _ hk (List.getElem?_eq_getElem hjl)).1.2.1
        omega
    rcases key a ha k1 with ⟨a1, a2⟩ | ⟨a1, a2⟩ <;> rcases key b hb k2 with ⟨b1, b2⟩ | ⟨b1, b2⟩
    · omega
    · subst a2; exact (far b hb b1 b2).symm
    · subst b2; exact far a ha a1 a2
    · exact h.apart a b _ _ a2 b2 hab
end Go.Proofs.YtbpfkmpkadimeaaGreatDoor
