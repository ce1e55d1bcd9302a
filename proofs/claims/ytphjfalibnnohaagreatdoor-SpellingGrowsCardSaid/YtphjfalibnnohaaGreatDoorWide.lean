/- smith.wide, kernel, small, Kernel. -/
import Derived.Test.YtphjfalibnnohaaGreatDoorUnit
import Derived.Deep.RegionLaw
namespace Go.Proofs.YtphjfalibnnohaaGreatDoor
open Go.RowKit Go.Lib
attribute [local go_sem ↓] Go.wp_at_zero Go.wp_at_succ

def wideM (m : List (List Int)) : List (List Int) := List.zipWith (· ++ ·) m (unitM m.length)

def WidePost (w : World) (tF n1 c : Nat) (gF : List (List Int)) (e : Ending) (w' : World) : Prop :=
  ∃ ob oc hs, e = .returned (.tuple #[.slice (some ⟨ob, 0, none⟩) tF oc, .int .i64 c]) ∧ GridIs w' ob 0 hs gF ∧ (∀ h, h ∈ hs → n1 ≤ h.2.2) ∧ Rect n1 gF ∧ tF ≤ gF.length ∧ gF.length ≤ 1000 ∧ Fr w w'

/-- rows that have not been reached yet -/
def RowsFrom (w : World) (A B j : Nat) (hs : List (Nat × Nat × Nat)) (g : List (List Int)) : Prop :=
  ∀ (i : Nat) (h : Nat × Nat × Nat) (xs : List Int), j ≤ i → hs[i]? = some h → g[i]? = some xs → h.2.1 = 0 ∧ A ≤ h.1 ∧ h.1 < B ∧ w.ownsRow gN 65 1 (.slice (some ⟨h.1, 0, none⟩) xs.length h.2.2) xs.length (xs.map sv)

theorem unitM_get {n i : Nat} (h : i < n) : (unitM n)[i]? = some (unitRow n i) := by simp [unitM, List.getElem?_range h]
theorem unitM_len (n : Nat) : (unitM n).length = n := by simp [unitM]
theorem unitRow_len (n i : Nat) : (unitRow n i).length = n := by simp [unitRow]
theorem wideM_len (m : List (List Int)) : (wideM m).length = m.length := by simp [wideM, unitM_len]
theorem wideM_get {m : List (List Int)} {i : Nat} (h : i < m.length) : (wideM m)[i]? = some (m[i] ++ unitRow m.length i) := by
  unfold wideM; rw [List.getElem?_zipWith, List.getElem?_eq_getElem h, unitM_get h]
theorem wideM_rect {m : List (List Int)} {n : Nat} (h : Rect n m) : Rect (n + m.length) (wideM m) := fun r hr => by
  obtain ⟨i, hi⟩ := List.getElem?_of_mem hr
  have hl : i < m.length := by rw [← wideM_len]; exact (List.getElem?_eq_some_iff.1 hi).1
  rw [wideM_get hl] at hi
  injection hi with hi
  rw [← hi, List.length_append, h.row hl, unitRow_len]

set_option maxRecDepth 100000 in
set_option maxHeartbeats 4000000 in
theorem wide_any (m gF : List (List Int)) (a : Option Addr) (cap n F tF : Nat) (w : World) (hG : G w) (hm : MatIs w a m) (hr : Rect n m) (hn : 1 ≤ n) (hn2 : n ≤ 1000) (hl1 : 1 ≤ m.length) (hl : m.length ≤ 1000) (hb : ∀ r, r ∈ m → ∀ x, x ∈ r → Sm x)
    (hh : herm F (n + m.length) 0 (wideM m) 0 = some (gF, tF)) :
    Calls Tryz.prog 93 #[.slice a m.length cap] w (WidePost w tF (n + m.length) n gF) := by
  obtain ⟨b0, o0, a0, c0, rfl, hc0, -⟩ := hm.at (i := 0) (by omega)
  have hbig := big_any m (some ⟨b0, o0, none⟩) cap n w hG hm hr hn (by omega) (by omega) hb
  have hr0 := hr.row (i := 0) (by omega)
  rw [hr0, Nat.add_zero] at hc0
  have hG1 := Lib.hid hG
  have hh1 := Lib.hid hh
  have hr1 := Lib.hid hr
  clear hG hm hb hh hr hr0
  go_enter Tryz.func93, Tryz.ntmps93
  go_wp2_with fail
  refine hbig.mono ?_
  clear hbig
  rintro e w1 ⟨v1, hs1, rfl, hgg1, hrw1, hnew1, hf1⟩
  obtain ⟨gb1, cp1, rfl⟩ := ownsRow_pos hgg1.own (by omega)
  replace hgg1 := Lib.hid hgg1
  replace hrw1 := Lib.hid hrw1
  go_wp2_with fail
  refine (unit_any m.length w1 (hG1.out.fr hf1) hl1 (by omega)).mono ?_
  rintro e w2 ⟨v2, hs2, rfl, hgg2, hnew2, hf2⟩
  obtain ⟨gb2, cp2, hv2⟩ := ownsRow_pos hgg2.own (by rw [unitM_len]; omega)
  rw [unitM_len] at hv2
  subst hv2
  obtain ⟨hu, -, hub, -⟩ := hgg2.grid
  have hg1 := hgg1.out.grid.1
  have hgb1 : gb1 < w1.heap.size := hg1.outer
  have hg2 := Lib.hid (hg1.fr hf2)
  have hgbase := hgg1.out.grid.2.2.1
  have hcp1 := Lib.hid hgg1.out.grid.2.2.2
  have hlt1 := Lib.hid hgg1.out.lt
  have hlen1 := Lib.hid hgg1.out.len
  have hrf : RowsFrom w2 w.heap.size w1.heap.size 0 hs1 m := fun i h xs _ k1 k2 => by
    obtain ⟨p1, p2⟩ := hrw1.out i h xs k1 k2
    exact ⟨p1, hnew1.out h (List.mem_of_getElem? k1), hlt1.out h (List.mem_of_getElem? k1), ownsRow_fr p2 hf2⟩
  replace hrf := Lib.hid hrf
  replace hu := Lib.hid hu
  have hub2 : gb2 ≠ gb1 := by omega
  have hunew : ∀ k, gb gb2 hs2 k → w1.heap.size ≤ k := by
    rintro k (rfl | ⟨h, hm2, rfl⟩)
    · exact hub
    · exact hnew2.out h hm2
  replace hunew := Lib.hid hunew
  obtain ⟨i0, hi, hz0, hz1, hz2⟩ := info_parts info65
  clear hg1 hgg2
  go_wp2_with fail
  go_loopg [21] m.length (fun k s21 wr => ∃ (j : Nat) (hs : List (Nat × Nat × Nat)), s21 = .int .i64 j ∧ j + k = m.length ∧ Fr w wr ∧ Hid (w2.heap.size ≤ wr.heap.size) ∧ GridIs wr gb1 0 hs ((wideM m).take j ++ m.drop j) ∧ RowsFrom wr w.heap.size w1.heap.size j hs m ∧ GridIs wr gb2 0 hs2 (unitM m.length) ∧ Hid (∀ h, h ∈ hs → w.heap.size ≤ h.1) ∧ Hid (∀ (i : Nat) (h : Nat × Nat × Nat), i < j → hs[i]? = some h → n + m.length ≤ h.2.2))
  case atStart => exact ⟨0, hs1, rfl, by omega, hf1.trans hf2, Nat.le_refl _, by simpa using hg2.out, hrf.out, hu.out, hnew1, fun i h hi => absurd hi (Nat.not_lt_zero _)⟩
  case round =>
    obtain ⟨j, hs, rfl, hjk, hf, hsz, hgr, hrr, hur, hnw, hcw⟩ := hrel
    have hwl := wideM_len m
    by_cases hlt : j < m.length
    · have hmid := mid_get (wideM m) m j hwl hlt
      have hmj := List.getElem?_eq_getElem hlt
      have hgl : j < ((wideM m).take j ++ m.drop j).length := by simp [hwl]; omega
      obtain ⟨b1, o1, k1, e1, ca1, cf1, ro1, bo1⟩ := hgr.at hgl
      have hrowj : ((wideM m).take j ++ m.drop j)[j] = m[j] := by
        have := List.getElem?_eq_getElem hgl
        rw [hmid, hmj] at this
        injection this with this; exact this.symm
      rw [hrowj] at ca1 ro1
      obtain ⟨q1, q0, q2, q3⟩ := hrr j _ _ (Nat.le_refl _) e1 hmj
      obtain ⟨b2, o2, k2, e2, ca2, cf2, ro2, bo2⟩ := hur.at (i := j) (by rw [unitM_len]; exact hlt)
      have hun : (unitM m.length)[j]'(by rw [unitM_len]; exact hlt) = unitRow m.length j := by
        have h9 := List.getElem?_eq_getElem (show j < (unitM m.length).length by rw [unitM_len]; exact hlt)
        rw [unitM_get hlt] at h9
        injection h9 with h9; exact h9.symm
      rw [hun] at ca2 ro2
      rw [unitRow_len] at ca2
      have hq1 : o1 = 0 := q1
      subst hq1
      have hrl := hr1.out.row hlt
      rw [hrl] at ca1 q3
      rw [Nat.zero_add] at ca1 cf1 ca2
      have hsrc : ∀ t u, ((unitRow m.length j).map sv)[t]? = some u → wr.drew.cell? ((⟨b2, o2, none⟩ : Addr).add t) = some u := fun t u hu => by
        rw [List.getElem?_map] at hu
        cases hx : (unitRow m.length j)[t]? with
        | none => rw [hx] at hu; simp at hu
        | some x =>
          rw [hx] at hu
          injection hu with hu; subst hu
          have := (ro2.2.2 t x hx).1
          rw [show ((⟨b2, o2, none⟩ : Addr).add t) = ⟨b2, o2 + t, none⟩ by unfold Addr.add; split <;> simp_all]
          exact this
      have z0 : (0 : Int) ≤ (j : Int) := Int.natCast_nonneg _
      have z1 : (j : Int) < (m.length : Int) := by omega
      have hown : wr.drew.ownsRow gN 65 1 (.slice (some ⟨b1, 0, none⟩) n k1) n ((m[j]).map sv) := q3
      have hset := mid_set (wideM m) m j hwl hlt _ (wideM_get hlt)
      replace hgr := Lib.hid hgr
      replace hrr := Lib.hid hrr
      replace hur := Lib.hid hur
      replace hsrc := Lib.hid hsrc
      replace hown := Lib.hid hown
      replace hset := Lib.hid hset
      replace hmj := Lib.hid hmj
      replace e1 := Lib.hid e1
      replace e2 := Lib.hid e2
      replace hwl := Lib.hid hwl
      replace hrl := Lib.hid hrl
      clear hmid hrowj hun q3
      go_wp2_with fail
      have hone : ∀ u ∈ (unitRow m.length j).map sv, u.oneCell' = true := fun u hu => by obtain ⟨x, _, rfl⟩ := List.mem_map.1 hu; rfl
      have hml : ((unitRow m.length j).map sv).length = m.length * 1 := by simp [unitRow_len]
      have hbs : gN ≤ wr.drew.heap.size := Nat.le_trans (gN_le hG1.out) hf.size
      have hmx : n + m.length ≤ maxLen := by unfold maxLen; omega
      have hkeep : ∀ wA, wr.drew.grownBy wA (Value.slice (some ⟨b1, 0, none⟩) n k1).ownBlock → wA.cell? ⟨gb1, j, none⟩ = some (.slice (some ⟨b1, 0, none⟩) n k1) ∧ wA.frozen? ⟨gb1, j, none⟩ = false := fun wA hg =>
        ⟨(Fx.of_grown hg).keep (q := ⟨gb1, j, none⟩) (w := wr.drew) ca1 (fun e => bo1 (by injection e)), (Fx.of_grown hg).keepf (q := ⟨gb1, j, none⟩) (w := wr.drew) ca1 cf1 (fun e => bo1 (by injection e))⟩
      replace hone := Lib.hid hone
      replace hml := Lib.hid hml
      go_region_law ((refine step_append_lies _ rfl (.tmp 29) (.tmp 33) 56 rfl gN 65 i0 (.string ⟨#[]⟩) 1 16 Tryz.underlying56 hi hz0 hz1 hz2 rfl (by decide) (.slice (some ⟨b1, 0, none⟩) n k1) n ((m[j]).map sv) (by simp [Act.eval]) hown.out ⟨b2, o2, none⟩ m.length k2 ((unitRow m.length j).map sv) (by simp [Act.eval]) hml.out hsrc.out hone.out hl1 hmx (by omega) hbs wr.heap.size rfl ?_; intro gA capA wA hownA hgrowA hatA hltA; have ca3 := hkeep wA hgrowA; obtain ⟨ca3, cf3⟩ := ca3))
      all_goals
        go_wp2_with fail
        have hfx : Fx (· = b1) wr wA := ((Fx.refl _ wr).drew).trans ((Fx.of_grown hgrowA).mono (fun k e => by injection e with e; exact e.symm))
        rw [← List.map_append] at hownA
        have hOA := (ownsRow_own (Nat.le_refl _) hownA).1
        have hcA := (ownsRow_own (Nat.le_refl _) hownA).2.2.2.2
        have hjl9 : j < hs.length := (List.getElem?_eq_some_iff.1 e1.out).1
        have hat2 : gA = b1 ∨ wr.heap.size ≤ gA := hatA.imp (fun e => by injection e with e; exact e.symm) (fun e => by omega)
        have hhd : Value.slice (some ⟨gA, 0, none⟩) (n + m.length) capA = hdr (gA, 0, capA) (m[j] ++ unitRow m.length j) := by unfold hdr; rw [List.length_append, hrl.out, unitRow_len]
        rw [hhd]
        have hG2 := hgr.out.setHead (hd' := (gA, 0, capA)) e1.out hfx hOA hat2
        rw [Nat.zero_add, hset.out] at hG2
        have hs9 : Fx (· = gb1) wA (wA.setCell ⟨gb1, j, none⟩ (hdr (gA, 0, capA) (m[j] ++ unitRow m.length j))) := Fx.setCell (p := (· = gb1)) (q := ⟨gb1, j, none⟩) (Fx.refl _ wA) (.inl rfl) _
        have hpp : Fx (fun k => k = b1 ∨ k = gb1) wr (wA.setCell ⟨gb1, j, none⟩ (hdr (gA, 0, capA) (m[j] ++ unitRow m.length j))) := (hfx.mono (fun k e => .inl e)).trans (hs9.mono (fun k e => .inr e))
        have hfrw : Fr w (wA.setCell ⟨gb1, j, none⟩ (hdr (gA, 0, capA) (m[j] ++ unitRow m.length j))) := ((Fx.of_fr hf).trans hpp).toFr (fun k hk e => by rcases e with e | e <;> omega)
        have hu2 := hur.out.fx hpp (fun k hk e => by have := hunew.out k hk; rcases e with e | e <;> omega)
        have hrr2 : RowsFrom (wA.setCell ⟨gb1, j, none⟩ (hdr (gA, 0, capA) (m[j] ++ unitRow m.length j))) w.heap.size w1.heap.size (j + 1) (hs.set j (gA, 0, capA)) m := fun i h xs hi k1 k2 => by
          rw [List.getElem?_set, if_neg (by omega)] at k1
          obtain ⟨p1, p2, p3, p4⟩ := hrr.out i h xs (by omega) k1 k2
          have hap := hgr.out.apart i j _ _ k1 e1.out (by omega)
          refine ⟨p1, p2, p3, ownsRow_fx p4 hpp (fun g9 hg9 e => ?_)⟩
          have e9 : h.1 = g9 := by simpa [Value.ownBlock] using hg9
          rcases e with e | e
          · exact hap (by rw [e9, e])
          · have hil : i < ((wideM m).take j ++ m.drop j).length := by rw [← hgr.out.len]; exact (List.getElem?_eq_some_iff.1 k1).1
            exact (hgr.out.row i h _ k1 (List.getElem?_eq_getElem hil)).2 (by rw [e9, e])
        go_roundg (gk - 1)
        case measure => omega
        case rel => exact ⟨j + 1, _, by go_num, by omega, hfrw, Nat.le_trans hsz.out hpp.size, hG2, hrr2, hu2, fun h hm => by rcases List.mem_or_eq_of_mem_set hm with h1 | h1; exact hnw.out h h1; (subst h1; rcases hat2 with e | e; (rw [e]; exact q0); exact Nat.le_trans hf.size e), fun i h hi k1 => by rw [List.getElem?_set] at k1; split at k1; ((try rw [if_pos hjl9] at k1); injection k1 with k1; subst k1; exact hcA); exact hcw.out i h (by omega) k1⟩
    · have hd : decide (j < m.length) = false := decide_eq_false hlt
      have hjm : j = m.length := by omega
      have hgE : (wideM m).take j ++ m.drop j = wideM m := by rw [hjm, List.drop_length, List.append_nil, List.take_of_length_le (by rw [hwl]; omega)]
      rw [hgE] at hgr
      have hherm := herm_any gb1 0 cp1 hs (wideM m) gF F (n + m.length) (n + m.length) tF wr (hG1.out.fr hf) hgr (wideM_rect hr1.out) (by omega) (by rw [hwl]; omega) (Nat.le_refl _) (by rw [hwl]; exact hcp1.out) hh1.out
      rw [hwl, Int.natCast_add] at hherm
      have hge : ∀ k, gb gb1 hs k → w.heap.size ≤ k := by
        rintro k (rfl | ⟨h, hm2, rfl⟩)
        · exact hgbase
        · exact hnw.out h hm2
      replace hge := Lib.hid hge
      replace hgr := Lib.hid hgr
      replace hur := Lib.hid hur
      have hwl9 := Lib.hid hwl
      clear hgE hwl hrr hjm
      go_wp2_with fail
      refine hherm.mono ?_
      clear hherm
      rintro e w5 ⟨rfl, ht5, hl5, hr5, hs5, hb5, hfx5, hg5⟩
      have hcap5 : ∀ h, h ∈ hs5 → n + m.length ≤ h.2.2 := fun h hm => by
        obtain ⟨i9, hi9⟩ := List.getElem?_of_mem (hb5.2 h hm)
        have h9 := (List.getElem?_eq_some_iff.1 hi9).1
        exact hcw.out i9 h (by rw [hgr.out.len, hwl9.out] at h9; omega) hi9
      replace hcap5 := Lib.hid hcap5
      go_wp2_with fail
      go_ret2
      exact ⟨gb1, cp1, hs5, rfl, hg5, hcap5.out, hr5, by rw [hl5]; exact ht5, by rw [hl5]; omega, ((Fx.of_fr hf).trans hfx5).toFr (fun k hk e => by have := hge.out k e; omega)⟩
end Go.Proofs.YtphjfalibnnohaaGreatDoor
