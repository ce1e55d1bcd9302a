/-
  Contracts and laws for the statements of the law 43 of the seat, QH.
-/
import Derived.Test.YtbpfkmpkadimeaaGreatDoorQF
import Derived.OwnWalk
import Derived.Test.YtbpfkmpkadimeaaGreatDoorQA
import Derived.Test.YtbpfkmpkadimeaaGreatDoorQB

/- row.CheckAll; lattice: check, longOf, longsOf, short. -/
namespace Go.Proofs.YtbpfkmpkadimeaaGreatDoor
open Go.RowKit Go.Lib
attribute [local go_sem ↓] Go.wp_at_zero Go.wp_at_succ

/-- the first error of rows of one length -/
def allE (n : Int) : List (List Int) → Int
  | [] => 0
  | r :: l => if rowE r ≠ 0 then rowE r else if (r.length : Int) ≠ n then 5 else allE n l

set_option maxHeartbeats 4000000 in
theorem CheckAll_ok (m : List (List Int)) (a : Option Addr) (cap n : Nat) (w : World) (hm : MatIs w a m) (hr : Rect n m) (hl : m.length ≤ 1000000) (he : ∀ r, r ∈ m → rowE r = 0) (hn : n ≤ 1000000) :
    Calls Tryz.prog 188 #[.slice a m.length cap, .int .i64 n] w fun e w' => e = .returned (.int .i64 0) ∧ Fr w w' := by
  replace hm := Lib.hid hm
  replace hr := Lib.hid hr
  replace he := Lib.hid he
  go_enter Tryz.func188, Tryz.ntmps188
  go_wp2_with fail
  go_loopg [10] m.length (fun k s10 wr => ∃ j : Nat, s10 = .int .i64 j ∧ j + k = m.length ∧ Fr w wr)
  case atStart => exact ⟨0, rfl, by omega, Fr.refl _⟩
  case round =>
    obtain ⟨j, rfl, hjk, hf⟩ := hrel
    by_cases hlt : j < m.length
    · obtain ⟨b, o, a', c', rfl, hc, hel⟩ := (hm.out.fr hf).at hlt
      have hck := Check_row m[j] a' c' wr hel (by rw [hr.out.row hlt]; omega)
      rw [he.out _ (List.getElem_mem hlt)] at hck
      rw [hr.out.row hlt] at hc hck
      clear hel
      have z0 : (0 : Int) ≤ (j : Int) := Int.natCast_nonneg _
      have z1 : (j : Int) < (m.length : Int) := by omega
      go_wp2_with fail
      refine hck.mono ?_
      clear hck
      rintro e w2 ⟨rfl, hf2⟩
      go_wp2_with fail
      go_roundg (gk - 1)
      case measure => omega
      case rel => exact ⟨j + 1, by go_num, by omega, hf.trans hf2⟩
    · have hd : decide (j < m.length) = false := decide_eq_false hlt
      go_wp2_with fail
      go_ret
      exact ⟨rfl, hf⟩

theorem latCheck_ok (m : List (List Int)) (a : Option Addr) (cap n : Nat) (w : World) (hm : MatIs w a m) (hr : Rect n m) (hl : m.length ≤ 12) (he : ∀ r, r ∈ m → rowE r = 0) (hn : n ≤ 12) :
    Calls Tryz.prog 105 #[.int .i64 n, .slice a m.length cap] w fun e w' => e = .returned (.int .i64 0) ∧ Fr w w' := by
  have hc := CheckAll_ok m a cap n w hm hr (by omega) he (by omega)
  clear hm he
  have d1 : decide ((n : Int) < 0) = false := decide_eq_false (by omega)
  go_enter Tryz.func105, Tryz.ntmps105
  go_wp2_with fail
  refine hc.mono ?_
  clear hc
  rintro e w2 ⟨rfl, hf2⟩
  go_wp2_with fail
  go_ret
  exact ⟨rfl, hf2⟩

def RowRet (w : World) (xs : List Int) (e : Ending) (w' : World) : Prop := ∃ g c, e = .returned (.slice (some ⟨g, 0, none⟩) xs.length c) ∧ Fr w w' ∧ w'.ownsRow w.heap.size 42 1 (.slice (some ⟨g, 0, none⟩) xs.length c) xs.length (xs.map sv)

set_option maxRecDepth 100000 in
set_option maxHeartbeats 4000000 in
theorem longOf_any (xs : List Int) (a : Option Addr) (cap : Nat) (w : World) (hG : G w) (hx : El w iv a xs) (hl : xs.length ≤ 1000000) (hb : ∀ x, x ∈ xs → Sm x) :
    Calls Tryz.prog 189 #[.slice a xs.length cap] w (RowRet w xs) := by
  obtain ⟨i0, hi, hz0, hz1, hz2⟩ := info_parts info65
  obtain ⟨n, hn⟩ : ∃ n, n = xs.length := ⟨_, rfl⟩
  rw [← hn] at hl
  replace hn := Lib.hid hn
  replace hx := Lib.hid hx
  replace hb := Lib.hid hb
  replace hG := Lib.hid hG
  go_enter Tryz.func189, Tryz.ntmps189
  rw [← hn.out]
  go_wp2_with (at_make; refine wpList_make_own _ rfl _ _ 252 rfl w.heap.size 42 i0 _ 1 Tryz.underlying252 hi hz0 hz1 _ _ _ n (by rfl) (by rfl) (by omega) (by rw [hz2]; omega) (by unfold maxLen; omega) (Nat.le_refl _) ?_; intro w2 hown2 hgr2)
  have hf2 : Fr w w2 := (Fr.refl w).grown hgr2 (fun k e => by cases e)
  replace hown2 := Lib.hid hown2
  clear hgr2
  go_loopg [3, 11] n (fun k s3 s11 wr => ∃ t : Nat, s11 = .int .i64 t ∧ t + k = n ∧ Fr w wr ∧ wr.ownsRow w.heap.size 42 1 s3 t ((xs.take t).map sv) ∧ s3 ≠ .slice none 0 0)
  case atStart => exact ⟨0, rfl, by omega, hf2, by simpa using hown2.out, by simp⟩
  case round =>
    obtain ⟨t, rfl, htk, hf, hown, hnn⟩ := hrel
    by_cases ht : t < n
    · obtain ⟨b2, o2, x, rfl, hbl2, hxt, hcell2⟩ := (hx.out.fr hf).at (i := t) (by rw [← hn.out]; exact ht)
      have hGr := hG.out.fr hf
      have hsx := hb.out x (List.mem_of_getElem? hxt)
      unfold Sm at hsx
      have hsn2 := Lib.hid (take_snoc hxt)
      replace hxt := Lib.hid hxt
      go_wp2_with fail
      refine (Of_any _ (by omega) (by omega) _ hGr).mono ?_
      rintro e w3 ⟨rfl, hf3⟩
      go_wp2_with (at_builtin; refine wpList_append_lies _ rfl _ _ 252 (by rfl) _ 42 _ _ 1 16 Tryz.underlying252 hi hz0 hz1 hz2 rfl (by decide) _ t _ (by rfl) (World.ownsRow.alloc (ownsRow_fr hown hf3) _) ⟨w3.heap.size, 0, none⟩ 1 1 [sv x] (by rfl) rfl (cell_one_newN _ _ _ _ (by simp)) (by simp [Value.oneCell']) (by decide) (by unfold maxLen; omega) (by omega) (by have := (hf.trans hf3).size; simp; omega) (w3.heap.size + 1) (by simp) ?_; intro gA capA wA hownA hgrowA hatA hltA)
      go_wp2_with fail
      go_roundg (gk - 1)
      case measure => omega
      case rel => exact ⟨t + 1, by go_num, by omega, ((hf.trans hf3).alloc _).grown hgrowA (fun k e => (hown.lt k e).1), by rw [hsn2.out, List.map_append]; exact hownA, by simp⟩
    · have hd : decide (t < n) = false := decide_eq_false ht
      obtain rfl : t = n := by omega
      obtain ⟨gb7, cp7, rfl⟩ := ownsRow_nn hown hnn
      rw [List.take_of_length_le (by rw [← hn.out]; omega)] at hown
      clear hnn
      go_wp2_with fail
      go_ret
      exact ⟨gb7, cp7, by rw [← hn.out]; rfl, hf, by rw [← hn.out]; exact hown⟩

theorem infoLong : (Tryz.prog.info? 252).map (fun i => (i.zero, i.size, i.bytes)) = some (some (.slice none 0 0), 1, 24) := by kernel_rfl

set_option maxHeartbeats 4000000 in
theorem longsOf_any (m : List (List Int)) (a : Option Addr) (cap : Nat) (w : World) (hG : G w) (hm : MatIs w a m) (hr : ∀ r, r ∈ m → r.length ≤ 1000000) (hl : m.length ≤ 1000000) (hb : ∀ r, r ∈ m → ∀ x, x ∈ r → Sm x) :
    Calls Tryz.prog 106 #[.slice a m.length cap] w (GridRet w 252 m) := by
  have hgn := gN_le hG
  obtain ⟨i1, ji, jz0, jz1, jz2⟩ := info_parts infoLong
  replace hm := Lib.hid hm
  replace hr := Lib.hid hr
  replace hb := Lib.hid hb
  replace hG := Lib.hid hG
  go_enter Tryz.func106, Tryz.ntmps106
  go_wp2_with fail
  go_loopg [3, 8] m.length (fun k s3 s8 wr => ∃ (j : Nat) (hs : List (Nat × Nat × Nat)), s8 = .int .i64 j ∧ j + k = m.length ∧ Fr w wr ∧ GG wr w.heap.size 252 s3 hs (m.take j) ∧ Hid (∀ h, h ∈ hs → w.heap.size ≤ h.1))
  case atStart => exact ⟨0, [], rfl, by omega, Fr.refl _, GG.nil _ _ _ hgn, fun h hm => by simp at hm⟩
  case round =>
    obtain ⟨j, hs, rfl, hjk, hf, hgg, hnew⟩ := hrel
    by_cases hlt : j < m.length
    · obtain ⟨b, o, a', c', rfl, hc, hel⟩ := (hm.out.fr hf).at hlt
      have hsn := take_snoc (List.getElem?_eq_getElem hlt)
      have hrj := hr.out _ (List.getElem_mem hlt)
      have hlong := longOf_any m[j] a' c' wr (hG.out.fr hf) hel hrj (hb.out _ (List.getElem_mem hlt))
      have hgl : (m.take j).length = j := by rw [List.length_take]; omega
      generalize m[j] = row at *
      obtain ⟨n, hn⟩ : ∃ n, n = row.length := ⟨_, rfl⟩
      rw [← hn] at hc hlong
      replace hn := Lib.hid hn
      replace hsn := Lib.hid hsn
      replace hgl := Lib.hid hgl
      replace hgg := Lib.hid hgg
      clear hel
      go_wp2_with fail
      refine hlong.mono ?_
      clear hlong
      rintro e w2 ⟨g, c, rfl, hf2, hown2⟩
      obtain ⟨hO, -, -, hgb, hcp⟩ := ownsRow_own (Nat.le_trans hgn hf.size) hown2
      have hgg2 := hgg.out.fr hf2
      have hne : u3.ownBlock ≠ some g := fun e => by have h9 := (hgg.out.own.lt g e).2; omega
      have hne2 : ∀ h', h' ∈ hs → h'.1 ≠ g := fun h' hm e2 => by have h9 := hgg.out.lt h' hm; omega
      have hown3 := hgg2.own
      rw [hgl.out] at hown3
      rw [← hn.out]
      replace hgg2 := Lib.hid hgg2
      replace hown2 := Lib.hid hown2
      go_wp2_with (at_builtin; refine wpList_append_lies _ rfl _ _ 173 (by rfl) _ 252 _ _ 1 24 Tryz.underlying173 ji jz0 jz1 jz2 rfl (by decide) _ j _ (by rfl) (World.ownsRow.alloc hown3 _) ⟨w2.heap.size, 0, none⟩ 1 1 [.slice (some ⟨g, 0, none⟩) n c] (by rfl) rfl (cell_one_newN _ _ _ _ (by simp)) (by simp [Value.oneCell']) (by decide) (by unfold maxLen; omega) (by omega) (by have := (hf.trans hf2).size; simp; omega) (w2.heap.size + 1) (by simp) ?_; intro gA capA wA hownA hgrowA hatA hltA)
      have hpush := (hgg2.out.fr ((Fr.refl _).alloc _)).pushN (hd := (g, 0, c)) (hO.fr ((Fr.refl _).alloc _)) hne2 hne hgl.out (by unfold hdr; rw [← hn.out]) hownA hgrowA (hatA.imp id (fun e => by rw [e]; simp))
      rw [← hsn.out] at hpush
      have hfrA : Fr w wA := (((hf.trans hf2).alloc _)).grown hgrowA (fun k e => (hgg2.out.own.lt k e).1)
      go_roundg (gk - 1)
      case measure => omega
      case rel => exact ⟨j + 1, _, by go_num, by omega, hfrA, hpush, fun h hm => by rcases List.mem_append.1 hm with h1 | h1; exact hnew.out h h1; (simp at h1; subst h1; exact Nat.le_trans hf.size hgb)⟩
    · have hd : decide (j < m.length) = false := decide_eq_false hlt
      have hjm : m.take j = m := List.take_of_length_le (by omega)
      rw [hjm] at hgg
      replace hjm := Lib.hid hjm
      go_wp2_with fail
      go_ret
      exact ⟨_, hs, rfl, hgg, hnew, hf⟩

def RowRetI (w : World) (xs : List Int) (e : Ending) (w' : World) : Prop := ∃ g c, e = .returned (.tuple #[.slice (some ⟨g, 0, none⟩) xs.length c, .int .i64 0]) ∧ Fr w w' ∧ w'.ownsRow w.heap.size 3 1 (.slice (some ⟨g, 0, none⟩) xs.length c) xs.length (xs.map iv)

set_option maxRecDepth 100000 in
set_option maxHeartbeats 4000000 in
theorem shortRow_any (xs : List Int) (b o c : Nat) (w : World) (hG : G w) (hx : Own w b o xs) (hl : xs.length ≤ 1000000) (hb : ∀ x, x ∈ xs → fitB x = true) :
    Calls Tryz.prog 196 #[.slice (some ⟨b, o, none⟩) xs.length c] w (RowRetI w xs) := by
  obtain ⟨i0, hi, hz0, hz1, hz2⟩ := info_parts infoInt
  obtain ⟨n, hn⟩ : ∃ n, n = xs.length := ⟨_, rfl⟩
  rw [← hn] at hl
  replace hn := Lib.hid hn
  replace hx := Lib.hid hx
  replace hb := Lib.hid hb
  replace hG := Lib.hid hG
  go_enter Tryz.func196, Tryz.ntmps196
  rw [← hn.out]
  go_wp2_with (at_make; refine wpList_make_own _ rfl _ _ 44 rfl w.heap.size 3 i0 _ 1 Tryz.underlying44 hi hz0 hz1 _ _ _ n (by rfl) (by rfl) (by omega) (by rw [hz2]; omega) (by unfold maxLen; omega) (Nat.le_refl _) ?_; intro w2 hown2 hgr2)
  have hf2 : Fr w w2 := (Fr.refl w).grown hgr2 (fun k e => by cases e)
  replace hown2 := Lib.hid hown2
  clear hgr2
  go_loopg [4, 14] n (fun k s4 s14 wr => ∃ t : Nat, s14 = .int .i64 t ∧ t + k = n ∧ Fr w wr ∧ wr.ownsRow w.heap.size 3 1 s4 t ((xs.take t).map iv) ∧ s4 ≠ .slice none 0 0)
  case atStart => exact ⟨0, rfl, by omega, hf2, by simpa using hown2.out, by simp⟩
  case round =>
    obtain ⟨t, rfl, htk, hf, hown, hnn⟩ := hrel
    by_cases ht : t < n
    · obtain ⟨b2, o2, x, hae, hbl2, hxt, hcell2⟩ := (hx.out.el.fr hf).at (i := t) (by rw [← hn.out]; exact ht)
      injection hae with hae; injection hae with hb2 ho2
      subst hb2; subst ho2
      have hfx := hb.out x (List.mem_of_getElem? hxt)
      unfold fitB at hfx
      have hfx := of_decide_eq_true hfx
      obtain ⟨x1, x2⟩ := hfx
      have hd1 : decide ((1000000000 : Int) < x) = false := decide_eq_false (by omega)
      have hd2 : decide (x < -1000000000) = false := decide_eq_false (by omega)
      have hsn2 := Lib.hid (take_snoc hxt)
      replace hxt := Lib.hid hxt
      go_wp2_with fail
      refine (Small_ok x (by omega) (by omega) _).mono ?_
      rintro e w3 ⟨rfl, hf3⟩
      go_wp2_with (at_builtin; refine wpList_append_lies _ rfl _ _ 44 (by rfl) _ 3 _ _ 1 8 Tryz.underlying44 hi hz0 hz1 hz2 rfl (by decide) _ t _ (by rfl) (World.ownsRow.alloc (ownsRow_fr hown hf3) _) ⟨w3.heap.size, 0, none⟩ 1 1 [iv x] (by rfl) rfl (cell_one_newN _ _ _ _ (by simp)) (by simp [Value.oneCell']) (by decide) (by unfold maxLen; omega) (by omega) (by have := (hf.trans hf3).size; simp; omega) (w3.heap.size + 1) (by simp) ?_; intro gA capA wA hownA hgrowA hatA hltA)
      go_wp2_with fail
      go_roundg (gk - 1)
      case measure => omega
      case rel => exact ⟨t + 1, by go_num, by omega, ((hf.trans hf3).alloc _).grown hgrowA (fun k e => (hown.lt k e).1), by rw [hsn2.out, List.map_append]; exact hownA, by simp⟩
    · have hd : decide (t < n) = false := decide_eq_false ht
      obtain rfl : t = n := by omega
      obtain ⟨gb7, cp7, rfl⟩ := ownsRow_nn hown hnn
      rw [List.take_of_length_le (by rw [← hn.out]; omega)] at hown
      clear hnn
      go_wp2_with fail
      go_ret2
      exact ⟨gb7, cp7, by rw [← hn.out]; rfl, hf, by rw [← hn.out]; exact hown⟩
end Go.Proofs.YtbpfkmpkadimeaaGreatDoor

/- lattice: short, form of one row, Of. -/
namespace Go.Proofs.YtbpfkmpkadimeaaGreatDoor
open Go.RowKit Go.Lib
attribute [local go_sem ↓] Go.wp_at_zero Go.wp_at_succ

/-- the cells of the two structs of the call's own -/
structure Two (w : World) (B n : Nat) (v : Value) : Prop where
  a0 : ∃ x, w.cell? ⟨B, 0, none⟩ = some x
  a1 : ∃ x, w.cell? ⟨B, 1, none⟩ = some x
  fa0 : w.frozen? ⟨B, 0, none⟩ = false
  fa1 : w.frozen? ⟨B, 1, none⟩ = false
  b0 : w.cell? ⟨B + 1, 0, none⟩ = some (.int .i64 n)
  b1 : w.cell? ⟨B + 1, 1, none⟩ = some v
  fb0 : w.frozen? ⟨B + 1, 0, none⟩ = false
  fb1 : w.frozen? ⟨B + 1, 1, none⟩ = false
theorem Two.fx {w w' : World} {B n : Nat} {v : Value} {p : Nat → Prop} (h : Two w B n v) (k : Fx p w w') (h0 : ¬ p B) (h1 : ¬ p (B + 1)) : Two w' B n v := by
  obtain ⟨⟨x, hx⟩, ⟨y, hy⟩, fa0, fa1, b0, b1, fb0, fb1⟩ := h
  exact ⟨⟨x, k.keep hx h0⟩, ⟨y, k.keep hy h0⟩, k.keepf hx fa0 h0, k.keepf hy fa1 h0, k.keep b0 h1, k.keep b1 h1, k.keepf b0 fb0 h1, k.keepf b1 fb1 h1⟩
theorem Two.set {w : World} {B n : Nat} {v : Value} (h : Two w B n v) (u : Value) : Two (w.setCell ⟨B + 1, 1, none⟩ u) B n u := by
  obtain ⟨⟨x, hx⟩, ⟨y, hy⟩, fa0, fa1, b0, b1, fb0, fb1⟩ := h
  have e1 : (⟨B + 1, 1, none⟩ : Addr) ≠ ⟨B, 0, none⟩ := fun e => by injection e with e; omega
  have e2 : (⟨B + 1, 1, none⟩ : Addr) ≠ ⟨B, 1, none⟩ := fun e => by injection e with e; omega
  have e3 : (⟨B + 1, 1, none⟩ : Addr) ≠ ⟨B + 1, 0, none⟩ := fun e => by injection e with _ e; omega
  refine ⟨⟨x, ?_⟩, ⟨y, ?_⟩, ?_, ?_, ?_, ?_, ?_, ?_⟩
  · rw [World.cell?_setCell_other _ _ _ _ e1]; exact hx
  · rw [World.cell?_setCell_other _ _ _ _ e2]; exact hy
  · rw [World.frozen?_setCell]; exact fa0
  · rw [World.frozen?_setCell]; exact fa1
  · rw [World.cell?_setCell_other _ _ _ _ e3]; exact b0
  · exact World.cell?_setCell_same' _ _ _ (by rw [b1]; rfl)
  · rw [World.frozen?_setCell]; exact fb0
  · rw [World.frozen?_setCell]; exact fb1

def LatRet (w : World) (n : Nat) (g : List (List Int)) (e : Ending) (w' : World) : Prop := ∃ a c, e = .returned (.tuple #[.agg #[.int .i64 n, .slice a g.length c], .int .i64 0]) ∧ (∀ W, Fx (· < w.heap.size) w' W → MatIs W a g) ∧ Fr w w'

set_option maxRecDepth 100000 in
set_option maxHeartbeats 4000000 in
theorem short_any (ob oc tF n : Nat) (hs : List (Nat × Nat × Nat)) (g : List (List Int)) (w : World) (hG : G w) (hg : GridIs w ob 0 hs g) (hl : g.length ≤ 1000000) (ht : tF ≤ g.length) (hr : ∀ r, r ∈ g → r.length ≤ 1000000) (hb : ∀ r, r ∈ g → ∀ x, x ∈ r → fitB x = true) :
    Calls Tryz.prog 108 #[.slice (some ⟨ob, 0, none⟩) tF oc, .int .i64 n] w (LatRet w n (g.take tF)) := by
  have hgn := gN_le hG
  obtain ⟨i1, ji, jz0, jz1, jz2⟩ := info_parts infoRow
  replace hg := Lib.hid hg
  replace hr := Lib.hid hr
  replace hb := Lib.hid hb
  replace hG := Lib.hid hG
  go_enter Tryz.func108, Tryz.ntmps108
  go_wp2_with fail
  have htwo : Two ((w.alloc (.cells #[.int .i64 0, .slice none 0 0] 98)).alloc (.cells #[.int .i64 n, .slice none 0 0] 98)) w.heap.size n (.slice none 0 0) := by
    have hfr : Fr (w.alloc (.cells #[.int .i64 0, .slice none 0 0] 98)) ((w.alloc (.cells #[.int .i64 0, .slice none 0 0] 98)).alloc (.cells #[.int .i64 n, .slice none 0 0] 98)) := (Fr.refl _).alloc _
    have p1 := new2a w (.int .i64 0) (.slice none 0 0) 98
    have p2 := new2b w (.int .i64 0) (.slice none 0 0) 98
    have p3 := new2a (w.alloc (.cells #[.int .i64 0, .slice none 0 0] 98)) (.int .i64 n) (.slice none 0 0) 98
    have p4 := new2b (w.alloc (.cells #[.int .i64 0, .slice none 0 0] 98)) (.int .i64 n) (.slice none 0 0) 98
    rw [World.size_alloc] at p3 p4
    exact ⟨⟨_, hfr.keep p1.1⟩, ⟨_, hfr.keep p2.1⟩, hfr.keepf p1.1 p1.2, hfr.keepf p2.1 p2.2, p3.1, p4.1, p3.2, p4.2⟩
  have hfr0 : Fr w ((w.alloc (.cells #[.int .i64 0, .slice none 0 0] 98)).alloc (.cells #[.int .i64 n, .slice none 0 0] 98)) := ((Fr.refl _).alloc _).alloc _
  go_loopg [15] tF (fun k s15 wr => ∃ (j : Nat) (hO : List (Nat × Nat × Nat)) (v : Value), s15 = .int .i64 j ∧ j + k = tF ∧ Fr w wr ∧ Hid (w.heap.size + 2 ≤ wr.heap.size) ∧ Two wr w.heap.size n v ∧ GI wr (w.heap.size + 2) 44 v hO (g.take j) ∧ Hid (∀ h, h ∈ hO → w.heap.size + 2 ≤ h.1))
  case atStart => exact ⟨0, [], _, rfl, by omega, hfr0, by show _ ≤ _; simp, htwo, GI.nil _ _ _ (by omega), fun h hm => by simp at hm⟩
  case round =>
    clear htwo hfr0
    obtain ⟨j, hO, v, rfl, hjk, hf, hsz, htw, hgi, hnew⟩ := hrel
    obtain ⟨⟨x0, a0⟩, ⟨x1, a1⟩, fa0, fa1, b0, b1, fb0, fb1⟩ := htw
    have htw := Lib.hid (show Two wr w.heap.size n v from ⟨⟨x0, a0⟩, ⟨x1, a1⟩, fa0, fa1, b0, b1, fb0, fb1⟩)
    by_cases hlt : j < tF
    · have hjl : j < g.length := by omega
      obtain ⟨rb, ro, rc, e1, ca1, cf1, ro1, bo1⟩ := (hg.out.fr hf).at hjl
      rw [Nat.zero_add] at ca1
      have hsn := take_snoc (List.getElem?_eq_getElem hjl)
      have hrj := hr.out _ (List.getElem_mem hjl)
      have hsh := shortRow_any g[j] rb ro rc wr (hG.out.fr hf) ro1 hrj (hb.out _ (List.getElem_mem hjl))
      have hgl : (g.take j).length = j := by rw [List.length_take]; omega
      generalize g[j] = row at *
      obtain ⟨m, hm⟩ : ∃ m, m = row.length := ⟨_, rfl⟩
      rw [← hm] at ca1 hsh
      replace hm := Lib.hid hm
      replace hsn := Lib.hid hsn
      replace hgl := Lib.hid hgl
      replace hgi := Lib.hid hgi
      replace ro1 := Lib.hid ro1
      replace e1 := Lib.hid e1
      clear a0 a1 fa0 fa1 b0 b1 fb0 fb1
      go_wp2_with fail
      refine hsh.mono ?_
      clear hsh
      rintro e w2 ⟨gg, c, rfl, hf2, hown2⟩
      obtain ⟨hO2, -, -, hgb, hcp⟩ := ownsRow_ownI (Nat.le_trans hgn hf.size) hown2
      have hgi2 := hgi.out.fr hf2
      have hne : v.ownBlock ≠ some gg := fun e => by have h9 := (hgi.out.own.lt gg e).2; omega
      have hne2 : ∀ h', h' ∈ hO → h'.1 ≠ gg := fun h' hm e2 => by have h9 := hgi.out.lt h' hm; omega
      have hown3 := hgi2.own
      rw [hgl.out] at hown3
      rw [← hm.out]
      have hvb : ∀ b, v.ownBlock = some b → w.heap.size + 2 ≤ b := fun b e => (hgi2.own.lt b e).1
      have htw2 := htw.out.fx (p := fun _ => False) (Fx.of_fr hf2) (fun e => e) (fun e => e)
      obtain ⟨⟨y0, a0⟩, ⟨y1, a1⟩, fa0, fa1, b0, b1, fb0, fb1⟩ := htw2
      have htw2 := Lib.hid (show Two w2 w.heap.size n v from ⟨⟨y0, a0⟩, ⟨y1, a1⟩, fa0, fa1, b0, b1, fb0, fb1⟩)
      clear a0 a1 fa0 fa1 b0
      replace hgi2 := Lib.hid hgi2
      replace hown2 := Lib.hid hown2
      replace hvb := Lib.hid hvb
      have hszz := hsz.out
      have htwA : ∀ wA : World, (w2.alloc (.cells #[.slice (some ⟨gg, 0, none⟩) m c] 44)).grownBy wA v.ownBlock → Two wA w.heap.size n v := fun wA hgw =>
        (htw2.out.fx (p := fun _ => False) (Fx.of_fr ((Fr.refl w2).alloc _)) (fun e => e) (fun e => e)).fx (Fx.of_grown hgw) (fun e => by have := hvb.out _ e; omega) (fun e => by have := hvb.out _ e; omega)
      replace htwA := Lib.hid htwA
      go_wp2_with (at_builtin; refine wpList_append_lies _ rfl _ _ 34 (by rfl) _ 44 _ _ 1 24 Tryz.underlying34 ji jz0 jz1 jz2 rfl (by decide) _ j _ (by rfl) (World.ownsRow.alloc hown3 _) ⟨w2.heap.size, 0, none⟩ 1 1 [.slice (some ⟨gg, 0, none⟩) m c] (by rfl) rfl (cell_one_newN _ _ _ _ (by simp)) (by simp [Value.oneCell']) (by decide) (by unfold maxLen; omega) (by omega) (by have := (hf.trans hf2).size; have := hf2.size; simp; omega) (w2.heap.size + 1) (by simp) ?_; intro gA capA wA hownA hgrowA hatA hltA; have htw3 := htwA.out wA hgrowA; have hbb := htw3.b1; have hfb := htw3.fb1; replace htw3 := Lib.hid htw3)
      have hpush := (hgi2.out.fr ((Fr.refl w2).alloc _)).pushN (hd := (gg, 0, c)) (hO2.fr ((Fr.refl w2).alloc _)) hne2 hne hgl.out (by unfold hdr; rw [← hm.out]) hownA hgrowA (hatA.imp id (fun e => by rw [e]; simp))
      rw [← hsn.out] at hpush
      have hfrA : Fr w wA := (((hf.trans hf2).alloc _)).grown hgrowA (fun k e => by have := hvb.out k e; omega)
      have hfx9 : Fx (· = w.heap.size + 1) wA (wA.setCell ⟨w.heap.size + 1, 1, none⟩ (.slice (some ⟨gA, 0, none⟩) (j + 1) capA)) := Fx.setCell (p := (· = w.heap.size + 1)) (q := ⟨w.heap.size + 1, 1, none⟩) (Fx.refl _ wA) (.inl rfl) _
      have hpush2 := hpush.fx hfx9 (fun b e e2 => by have e3 : b = w.heap.size + 1 := e2; have h9 := (hpush.own.lt b e).1; omega) (fun hd hm9 e2 => by rcases List.mem_append.1 hm9 with h1 | h1; (have e3 : hd.1 = w.heap.size + 1 := e2; have := hnew.out hd h1; omega); (simp at h1; subst h1; have e3 : gg = w.heap.size + 1 := e2; omega))
      have htw4 := htw3.out.set (.slice (some ⟨gA, 0, none⟩) (j + 1) capA)
      have hfr9 : Fr w (wA.setCell ⟨w.heap.size + 1, 1, none⟩ (.slice (some ⟨gA, 0, none⟩) (j + 1) capA)) := hfrA.setCell (p := ⟨w.heap.size + 1, 1, none⟩) (by simp) _
      go_roundg (gk - 1)
      case measure => omega
      case rel => exact ⟨j + 1, _, _, by go_num, by omega, hfr9, Lib.hid (by have h7 := hf2.size; have h8 := hgrowA.size; have h9 := hszz; simp at h8; simp; omega), htw4, hpush2, fun h hm9 => by rcases List.mem_append.1 hm9 with h1 | h1; exact hnew.out h h1; (simp at h1; subst h1; exact Nat.le_trans hsz.out hgb)⟩
    · have hd : decide (j < tF) = false := decide_eq_false hlt
      obtain rfl : j = tF := by omega
      obtain ⟨a9, c9, rfl, -⟩ := ownsRow_slice hgi.own
      have hgl : (g.take j).length = j := by rw [List.length_take]; omega
      rw [hgl] at hgi b1 htw
      go_wp2_with fail
      have q0 : (wr.setCell ⟨w.heap.size, 0, none⟩ (.int .i64 n)).cell? ⟨w.heap.size, 0, none⟩ = some (.int .i64 n) := World.cell?_setCell_same' _ _ _ (by rw [a0]; rfl)
      have e1 : (⟨w.heap.size, 0, none⟩ : Addr) ≠ ⟨w.heap.size, 1, none⟩ := fun e => by injection e with _ e; omega
      have q1 : ((wr.setCell ⟨w.heap.size, 0, none⟩ (.int .i64 n)).setCell ⟨w.heap.size, 1, none⟩ (.slice a9 j c9)).cell? ⟨w.heap.size, 1, none⟩ = some (.slice a9 j c9) := World.cell?_setCell_same' _ _ _ (by rw [World.cell?_setCell_other _ _ _ _ e1, a1]; rfl)
      refine bodyPost_ret (v := .tuple #[.agg #[.int .i64 n, .slice a9 j c9], .int .i64 0]) (by simp [results, Tryz.results108, go_sem, q0, q1]) rfl ⟨a9, c9, by rw [hgl], ?_, (hf.setCell (p := ⟨w.heap.size, 0, none⟩) (by simp) _).setCell (p := ⟨w.heap.size, 1, none⟩) (by simp) _⟩
      have hfx : Fx (· = w.heap.size) wr ((wr.setCell ⟨w.heap.size, 0, none⟩ (.int .i64 n)).setCell ⟨w.heap.size, 1, none⟩ (.slice a9 j c9)) := Fx.setCell (p := (· = w.heap.size)) (q := ⟨w.heap.size, 1, none⟩) (Fx.setCell (p := (· = w.heap.size)) (q := ⟨w.heap.size, 0, none⟩) (Fx.refl _ wr) (.inl rfl) _) (.inl rfl) _
      intro W hW
      exact ((hgi.fx hfx (fun b e e2 => by have e3 : b = w.heap.size := e2; have h9 := (hgi.own.lt b e).1; omega) (fun hd hm9 e2 => by have e3 : hd.1 = w.heap.size := e2; have := hnew.out hd hm9; omega)).fx hW (fun b e e2 => by have e3 : b < w.heap.size := e2; have h9 := (hgi.own.lt b e).1; omega) (fun hd hm9 e2 => by have e3 : hd.1 < w.heap.size := e2; have := hnew.out hd hm9; omega)).mat
end Go.Proofs.YtbpfkmpkadimeaaGreatDoor

/- lattice: form of one row, Of at one row. -/
namespace Go.Proofs.YtbpfkmpkadimeaaGreatDoor
open Go.RowKit Go.Lib
attribute [local go_sem ↓] Go.wp_at_zero Go.wp_at_succ

set_option maxRecDepth 100000 in
set_option maxHeartbeats 4000000 in
theorem form1_any (ob oo oc n : Nat) (x : Int) (xs : List Int) (hs : List (Nat × Nat × Nat)) (w : World) (hg : GridIs w ob oo hs [x :: xs]) (hx : 0 < x) (hsx : Sm x) (hn : 1 ≤ n) (hn2 : n ≤ 1000000) (hl : xs.length ≤ 1000000) (hoc : 1 ≤ oc) :
    Calls Tryz.prog 107 #[.slice (some ⟨ob, oo, none⟩) 1 oc, .int .i64 n] w fun e w' => e = .returned (.slice (some ⟨ob, oo, none⟩) 1 oc) ∧ Fx (gb ob hs) w w' ∧ GridIs w' ob oo hs [x :: xs] := by
  have hb := tx_beq0 x
  rw [decide_eq_false (show ¬ x = 0 by omega)] at hb
  have hsz := Lib.hid hsx.size
  replace hg := Lib.hid hg
  replace hsx := Lib.hid hsx
  go_enter Tryz.func107, Tryz.ntmps107
  go_wp2_with fail
  go_loopg [5, 6] 1 (fun k s5 s6 wr => ∃ d : Nat, s5 = .int .i64 d ∧ s6 = .int .i64 d ∧ d + k = 1 ∧ Hid (GridIs wr ob oo hs [x :: xs]) ∧ Fx (gb ob hs) w wr)
  case atStart => exact ⟨0, rfl, rfl, rfl, hg, Fx.refl _ _⟩
  case round =>
    obtain ⟨d, rfl, rfl, hdk, hg1, hfx1⟩ := hrel
    by_cases hd : d = 0
    · subst hd
      obtain rfl : gk = 1 := by omega
      obtain ⟨wo, rfl⟩ : ∃ wo : World, wo = wr := ⟨_, rfl⟩
      go_wp2_with fail
      go_loopg [5] 0 (fun _ s5 wr2 => s5 = .int .i64 0 ∧ wo = wr2)
      case atStart => exact ⟨rfl, rfl⟩
      case round =>
        obtain ⟨rfl, rfl⟩ := hrel
        go_wp2_with fail
        go_loopg [7, 8] 1 (fun m s7 s8 wr3 => ∃ i : Nat, s8 = .int .i64 i ∧ i + m = 1 ∧ s7 = .int .i64 ((i : Int) - 1) ∧ Qt wo wr3)
        case atStart => exact ⟨0, rfl, rfl, rfl, Qt.refl _⟩
        case round =>
          obtain ⟨i, rfl, him, rfl, hq3⟩ := hrel
          by_cases hi : i = 0
          · subst hi
            have hgr3 := hg1.out.fr hq3.fr
            obtain ⟨bi, oi, ki, hsi, cai, cfi, roi, boi⟩ := hgr3.at (i := 0) (by simp)
            have cei := (roi.2.2 0 x rfl).1
            simp only [Nat.add_zero, List.getElem_cons_zero, List.length_cons] at cai cfi cei
            have zl : (0 : Int) < ((xs.length + 1 : Nat) : Int) := by omega
            have zm : 0 < xs.length + 1 := by omega
            go_wp2_with fail
            go_quiet (fail)
            go_wp2_with fail
            go_roundg 0
            case measure => omega
            case rel => exact ⟨1, by go_num, by omega, by go_num, by repeat (with_reducible first | assumption | exact Qt.refl _ | refine Qt.drew ?_ | refine Qt.drewN ?_ _ | refine Qt.trans ?_ (by assumption))⟩
          · obtain rfl : i = 1 := by omega
            have hgr3 := hg1.out.fr hq3.fr
            have hfx3 := hfx1.fr hq3.fr
            obtain ⟨bi, oi, ki, hsi, cai, cfi, roi, boi⟩ := hgr3.at (i := 0) (by simp)
            have cei := (roi.2.2 0 x rfl).1
            simp only [Nat.add_zero, List.getElem_cons_zero, List.length_cons] at cai cfi cei
            have zl : (0 : Int) < ((xs.length + 1 : Nat) : Int) := by omega
            have zm : 0 < xs.length + 1 := by omega
            replace hgr3 := Lib.hid hgr3
            go_wp2_with fail
            go_region
            have hgX : GridIs ((wr.setCell ⟨ob, oo, none⟩ (.slice (some ⟨bi, oi, none⟩) (xs.length + 1) ki)).setCell ⟨ob, oo, none⟩ (.slice (some ⟨bi, oi, none⟩) (xs.length + 1) ki)).drew ob oo hs [x :: xs] := (hgr3.out.same (i := 0) cai).fr (Fr.refl _).drew
            have hfX : Fx (gb ob hs) w ((wr.setCell ⟨ob, oo, none⟩ (.slice (some ⟨bi, oi, none⟩) (xs.length + 1) ki)).setCell ⟨ob, oo, none⟩ (.slice (some ⟨bi, oi, none⟩) (xs.length + 1) ki)).drew :=
              ((hfx3.setCell (q := ⟨ob, oo, none⟩) (.inl (.inl rfl)) _).setCell (q := ⟨ob, oo, none⟩) (.inl (.inl rfl)) _).drew
            generalize ((wr.setCell ⟨ob, oo, none⟩ (.slice (some ⟨bi, oi, none⟩) (xs.length + 1) ki)).setCell ⟨ob, oo, none⟩ (.slice (some ⟨bi, oi, none⟩) (xs.length + 1) ki)).drew = W at hgX hfX ⊢
            clear hgr3 hfx3 hsi cai cfi roi boi cei hg1 hfx1
            go_wp2_with fail
            go_loopg [9, 10] 0 (fun _ s9 s10 wr4 => s9 = .bool false ∧ s10 = .int .i64 1 ∧ W = wr4)
            case atStart => exact ⟨rfl, rfl, rfl⟩
            case round =>
              obtain ⟨rfl, rfl, rfl⟩ := hrel
              obtain ⟨bi, oi, ki, hsi, cai, cfi, roi, boi⟩ := hgX.at (i := 0) (by simp)
              have cei := (roi.2.2 0 x rfl).1
              simp only [Nat.add_zero, List.getElem_cons_zero, List.length_cons] at cai cfi cei
              replace hgX := Lib.hid hgX
              go_wp2_with fail
              refine (Sign_any x _).mono ?_
              rintro e w' ⟨rfl, rfl⟩
              rw [Int.sign_eq_one_of_pos hx]
              go_wp2_with fail
              go_loopg [143] 0 (fun _ s1 wr5 => s1 = .int .i64 0 ∧ W = wr5)
              case atStart => exact ⟨rfl, rfl⟩
              case round =>
                obtain ⟨rfl, rfl⟩ := hrel
                go_wp2_with fail
                go_roundg 0
                case measure => omega
                case rel => exact ⟨1, by go_num, by go_num, rfl, hgX, hfX⟩
    · obtain rfl : d = 1 := by omega
      by_cases hn1 : 1 < n
      all_goals
        first
        | have hdn : decide (1 < n) = true := decide_eq_true hn1
        | have hdn : decide (1 < n) = false := decide_eq_false hn1
        go_wp2_with fail
        go_ret
        exact ⟨rfl, hfx1, hg1.out⟩
end Go.Proofs.YtbpfkmpkadimeaaGreatDoor

/- lattice.Of at one row. -/
namespace Go.Proofs.YtbpfkmpkadimeaaGreatDoor
open Go.RowKit Go.Lib
attribute [local go_sem ↓] Go.wp_at_zero Go.wp_at_succ

set_option maxRecDepth 100000 in
set_option maxHeartbeats 4000000 in
theorem Of_one (x : Int) (xs : List Int) (a : Option Addr) (cap n : Nat) (w : World) (hG : G w) (hm : MatIs w a [x :: xs]) (hok : TabOk n [x :: xs]) (hx : 0 < x) (hn : 1 ≤ n) :
    Calls Tryz.prog 45 #[.int .i64 n, .slice a 1 cap] w (LatRet w n [x :: xs]) := by
  have hfit := hok.2.2.2
  have hr1 := hok.2.2.1
  have hlen : (x :: xs).length = n := hr1 _ (by simp)
  have hsm : ∀ r, r ∈ [x :: xs] → ∀ y, y ∈ r → Sm y := fun r hr y hy => fit_sm (hfit r hr y hy)
  have hn12 := hok.2.1
  have hxl : xs.length ≤ 1000000 := by simp at hlen; omega
  have hrl : ∀ r, r ∈ [x :: xs] → r.length ≤ 1000000 := fun r hr => by rw [hr1 r hr]; omega
  have hsx : Sm x := hsm (x :: xs) (List.mem_cons_self ..) x (List.mem_cons_self ..)
  have hE : ∀ r, r ∈ [x :: xs] → rowE r = 0 := fun r hr =>
    rowE_ok (by rw [hr1 r hr]; omega) (by
      rw [List.any_eq_false]
      intro y hy
      rw [hfit r hr y hy]; simp)
  have hgr2 : ∀ r, r ∈ [x :: xs] → ∀ y, y ∈ r → fitB y = true := hfit
  have hchk := fun W hW => latCheck_ok [x :: xs] a cap n W (hm.fr (w' := W) hW) hr1 (by simp) hE hn12
  have hlongs := fun W hW => longsOf_any [x :: xs] a cap W (hG.fr hW) (hm.fr hW) hrl (by simp) hsm
  have hform := fun ob oo oc hs W hg hoc => form1_any ob oo oc n x xs hs W hg hx hsx hn (by omega) hxl hoc
  have hG1 := Lib.hid hG
  replace hgr2 := Lib.hid hgr2
  replace hfit := Lib.hid hfit
  replace hrl := Lib.hid hrl
  replace hchk := Lib.hid hchk
  replace hlongs := Lib.hid hlongs
  replace hform := Lib.hid hform
  clear hm hok hG hr1 hlen hsm hE hsx
  have hgn := gN_le hG1.out
  go_enter Tryz.func45, Tryz.ntmps45
  go_wp2_with fail
  refine (hchk.out _ ((Fr.refl w).alloc _)).mono ?_
  rintro e w1 ⟨rfl, hf1⟩
  go_wp2_with fail
  refine (hlongs.out _ (((Fr.refl w).alloc _).trans hf1)).mono ?_
  rintro e w2 ⟨v, hs, rfl, hgg, hnew, hf2⟩
  obtain ⟨ob, oc, rfl⟩ := ownsRow_pos hgg.own (by simp)
  obtain ⟨hg, -, hgb, hgc⟩ := hgg.grid
  clear hgg
  have hg9 := Lib.hid hg
  go_wp2_with fail
  refine (hform.out ob 0 oc hs _ hg9.out hgc).mono ?_
  rintro e w3 ⟨rfl, hfx3, hg3⟩
  replace hg3 := Lib.hid hg3
  have hfr3 : Fr (w.alloc (.cells #[.int .i64 0, .slice none 0 0] 98)) w3 := ((Fx.of_fr (hf1.trans hf2)).trans hfx3).toFr (fun k hk e => by
    have h1 := hf1.size
    rcases e with rfl | ⟨h, hm9, rfl⟩
    · omega
    · have := hnew.out h hm9; omega)
  go_wp2_with fail
  refine (short_any ob oc 1 n hs [x :: xs] w3 (hG1.out.fr (((Fr.refl w).alloc _).trans hfr3)) hg3.out (by simp) (by simp) hrl.out hgr2.out).mono ?_
  rintro e w4 ⟨a4, c4, rfl, hm4, hf4⟩
  have p1 := new2a w (.int .i64 0) (.slice none 0 0) 98
  have p2 := new2b w (.int .i64 0) (.slice none 0 0) 98
  have c1 := (hfr3.trans hf4).keep p1.1
  have c2 := (hfr3.trans hf4).keep p2.1
  have c3 := (hfr3.trans hf4).keepf p1.1 p1.2
  have c5 := (hfr3.trans hf4).keepf p2.1 p2.2
  replace hm4 := Lib.hid hm4
  clear p1 p2
  go_wp2_with fail
  have e1 : (⟨w.heap.size, 0, none⟩ : Addr) ≠ ⟨w.heap.size, 1, none⟩ := fun e => by injection e with _ e; omega
  have q0 : (w4.setCell ⟨w.heap.size, 0, none⟩ (.int .i64 n)).cell? ⟨w.heap.size, 0, none⟩ = some (.int .i64 n) := World.cell?_setCell_same' _ _ _ (by rw [c1]; rfl)
  have q1 : ((w4.setCell ⟨w.heap.size, 0, none⟩ (.int .i64 n)).setCell ⟨w.heap.size, 1, none⟩ (.slice a4 1 c4)).cell? ⟨w.heap.size, 1, none⟩ = some (.slice a4 1 c4) := World.cell?_setCell_same' _ _ _ (by rw [World.cell?_setCell_other _ _ _ _ e1, c2]; rfl)
  have hfw : Fr w w4 := ((Fr.refl w).alloc _).trans (hfr3.trans hf4)
  refine bodyPost_ret (v := .tuple #[.agg #[.int .i64 n, .slice a4 1 c4], .int .i64 0]) (by simp [results, Tryz.results45, go_sem, q0, q1]) rfl ⟨a4, c4, rfl, ?_, (hfw.setCell (p := ⟨w.heap.size, 0, none⟩) (by simp) _).setCell (p := ⟨w.heap.size, 1, none⟩) (by simp) _⟩
  have hfx : Fx (· = w.heap.size) w4 ((w4.setCell ⟨w.heap.size, 0, none⟩ (.int .i64 n)).setCell ⟨w.heap.size, 1, none⟩ (.slice a4 1 c4)) := Fx.setCell (p := (· = w.heap.size)) (q := ⟨w.heap.size, 1, none⟩) (Fx.setCell (p := (· = w.heap.size)) (q := ⟨w.heap.size, 0, none⟩) (Fx.refl _ w4) (.inl rfl) _) (.inl rfl) _
  have hs3 := hfr3.size
  have hs3 : w.heap.size < w3.heap.size := by simp at hs3; omega
  intro W hW
  exact hm4.out W ((hfx.mono (fun k e => by have e2 : k = w.heap.size := e; show k < _; omega)).trans (hW.mono (fun k e => by have e2 : k < w.heap.size := e; show k < _; omega)))
end Go.Proofs.YtbpfkmpkadimeaaGreatDoor

/- lattice: no rows at all. -/
namespace Go.Proofs.YtbpfkmpkadimeaaGreatDoor
open Go.RowKit Go.Lib
attribute [local go_sem ↓] Go.wp_at_zero Go.wp_at_succ

theorem longsOf_nil (w : World) : Calls Tryz.prog 106 #[.slice none 0 0] w fun e w' => e = .returned (.slice none 0 0) ∧ Fr w w' := by
  go_enter Tryz.func106, Tryz.ntmps106
  go_wp2_with fail
  refine wp_loop_rounds 1 ?_
  rw [rounds_succ]
  go_wp2_with fail
  go_ret
  exact ⟨rfl, Fr.refl _⟩

set_option maxRecDepth 100000 in
theorem form_nil (n : Nat) (w : World) (hn : 1 ≤ n) (hn2 : n ≤ 1000000) : Calls Tryz.prog 107 #[.slice none 0 0, .int .i64 n] w fun e w' => e = .returned (.slice none 0 0) ∧ Fr w w' := by
  go_enter Tryz.func107, Tryz.ntmps107
  have d1 : (0 : Int) < (n : Int) := by omega
  go_wp2_with fail
  refine wp_loop_rounds 1 ?_
  rw [rounds_succ]
  go_wp2_with fail
  go_ret
  exact ⟨rfl, Fr.refl _⟩

set_option maxRecDepth 100000 in
set_option maxHeartbeats 1000000 in
theorem short_nil (n : Nat) (w : World) : Calls Tryz.prog 108 #[.slice none 0 0, .int .i64 n] w fun e w' => e = .returned (.tuple #[.agg #[.int .i64 n, .slice none 0 0], .int .i64 0]) ∧ Fr w w' := by
  obtain ⟨W, hW⟩ : ∃ W, W = ((w.alloc (.cells #[.int .i64 0, .slice none 0 0] 98)).alloc (.cells #[.int .i64 n, .slice none 0 0] 98)) := ⟨_, rfl⟩
  have hf : Fr w W := by rw [hW]; exact ((Fr.refl _).alloc _).alloc _
  have htwo : Two W w.heap.size n (.slice none 0 0) := by
    rw [hW]
    have hfr : Fr (w.alloc (.cells #[.int .i64 0, .slice none 0 0] 98)) ((w.alloc (.cells #[.int .i64 0, .slice none 0 0] 98)).alloc (.cells #[.int .i64 n, .slice none 0 0] 98)) := (Fr.refl _).alloc _
    have p1 := new2a w (.int .i64 0) (.slice none 0 0) 98
    have p2 := new2b w (.int .i64 0) (.slice none 0 0) 98
    have p3 := new2a (w.alloc (.cells #[.int .i64 0, .slice none 0 0] 98)) (.int .i64 n) (.slice none 0 0) 98
    have p4 := new2b (w.alloc (.cells #[.int .i64 0, .slice none 0 0] 98)) (.int .i64 n) (.slice none 0 0) 98
    rw [World.size_alloc] at p3 p4
    exact ⟨⟨_, hfr.keep p1.1⟩, ⟨_, hfr.keep p2.1⟩, hfr.keepf p1.1 p1.2, hfr.keepf p2.1 p2.2, p3.1, p4.1, p3.2, p4.2⟩
  obtain ⟨⟨x0, a0⟩, ⟨x1, a1⟩, fa0, fa1, b0, b1, fb0, fb1⟩ := htwo
  go_enter Tryz.func108, Tryz.ntmps108
  go_wp2_with fail
  rw [← hW]
  clear hW
  refine wp_loop_rounds 1 ?_
  rw [rounds_succ]
  have a0h := Lib.hid a0
  have a1h := Lib.hid a1
  go_wp2_with fail
  have q0 : (W.setCell ⟨w.heap.size, 0, none⟩ (.int .i64 n)).cell? ⟨w.heap.size, 0, none⟩ = some (.int .i64 n) := World.cell?_setCell_same' _ _ _ (by rw [a0h.out]; rfl)
  have e1 : (⟨w.heap.size, 0, none⟩ : Addr) ≠ ⟨w.heap.size, 1, none⟩ := fun e => by injection e with _ e; omega
  have q1 : ((W.setCell ⟨w.heap.size, 0, none⟩ (.int .i64 n)).setCell ⟨w.heap.size, 1, none⟩ (.slice none 0 0)).cell? ⟨w.heap.size, 1, none⟩ = some (.slice none 0 0) := World.cell?_setCell_same' _ _ _ (by rw [World.cell?_setCell_other _ _ _ _ e1, a1h.out]; rfl)
  exact bodyPost_ret (v := .tuple #[.agg #[.int .i64 n, .slice none 0 0], .int .i64 0]) (by simp [results, Tryz.results108, go_sem, q0, q1]) rfl ⟨rfl, (hf.setCell (p := ⟨w.heap.size, 0, none⟩) (by simp) _).setCell (p := ⟨w.heap.size, 1, none⟩) (by simp) _⟩

set_option maxRecDepth 100000 in
set_option maxHeartbeats 1000000 in
theorem Of_nil (n : Nat) (w : World) (hn : 1 ≤ n) (hn2 : n ≤ 12) : Calls Tryz.prog 45 #[.int .i64 n, .slice none 0 0] w fun e w' => e = .returned (.tuple #[.agg #[.int .i64 n, .slice none 0 0], .int .i64 0]) ∧ Fr w w' := by
  have hchk := fun W => latCheck_ok [] none 0 n W (.inl rfl) (fun r hr => by simp at hr) (by simp) (fun r hr => by simp at hr) hn2
  simp only [List.length_nil] at hchk
  have hl := fun W => longsOf_nil W
  have hf := fun W => form_nil n W hn (by omega)
  have hs := fun W => short_nil n W
  replace hchk := Lib.hid hchk
  replace hl := Lib.hid hl
  replace hf := Lib.hid hf
  replace hs := Lib.hid hs
  have hfA : Fr w (w.alloc (.cells #[.int .i64 0, .slice none 0 0] 98)) := (Fr.refl w).alloc _
  replace hfA := Lib.hid hfA
  go_enter Tryz.func45, Tryz.ntmps45
  go_wp2_with fail
  refine (hchk.out _).mono ?_
  rintro e w1 ⟨rfl, hf1⟩
  go_wp2_with fail
  refine (hl.out _).mono ?_
  rintro e w2 ⟨rfl, hf2⟩
  go_wp2_with fail
  refine (hf.out _).mono ?_
  rintro e w3 ⟨rfl, hf3⟩
  go_wp2_with fail
  refine (hs.out _).mono ?_
  rintro e w4 ⟨rfl, hf4⟩
  have hfr3 := ((hf1.trans hf2).trans hf3).trans hf4
  have hfw := Lib.hid (hfA.out.trans hfr3)
  have p1 := new2a w (.int .i64 0) (.slice none 0 0) 98
  have p2 := new2b w (.int .i64 0) (.slice none 0 0) 98
  have c1 := hfr3.keep p1.1
  have c2 := hfr3.keep p2.1
  have c3 := hfr3.keepf p1.1 p1.2
  have c5 := hfr3.keepf p2.1 p2.2
  clear p1 p2
  have c1h := Lib.hid c1
  have c2h := Lib.hid c2
  go_wp2_with fail
  have e1 : (⟨w.heap.size, 0, none⟩ : Addr) ≠ ⟨w.heap.size, 1, none⟩ := fun e => by injection e with _ e; omega
  have q0 : (w4.setCell ⟨w.heap.size, 0, none⟩ (.int .i64 n)).cell? ⟨w.heap.size, 0, none⟩ = some (.int .i64 n) := World.cell?_setCell_same' _ _ _ (by rw [c1h.out]; rfl)
  have q1 : ((w4.setCell ⟨w.heap.size, 0, none⟩ (.int .i64 n)).setCell ⟨w.heap.size, 1, none⟩ (.slice none 0 0)).cell? ⟨w.heap.size, 1, none⟩ = some (.slice none 0 0) := World.cell?_setCell_same' _ _ _ (by rw [World.cell?_setCell_other _ _ _ _ e1, c2h.out]; rfl)
  exact bodyPost_ret (v := .tuple #[.agg #[.int .i64 n, .slice none 0 0], .int .i64 0]) (by simp [results, Tryz.results45, go_sem, q0, q1]) rfl ⟨rfl, (hfw.out.setCell (p := ⟨w.heap.size, 0, none⟩) (by simp) _).setCell (p := ⟨w.heap.size, 1, none⟩) (by simp) _⟩
end Go.Proofs.YtbpfkmpkadimeaaGreatDoor

/- lattice: a row less a multiple of another one; a row with its signs turned. -/
namespace Go.Proofs.YtbpfkmpkadimeaaGreatDoor
open Go.RowKit Go.Lib
attribute [local go_sem ↓] Go.wp_at_zero Go.wp_at_succ

set_option maxHeartbeats 1000000 in
theorem less_any (lb lo lc ob oo oc n m : Nat) (q : Int) (xs ys zs : List Int) (w : World) (hG : G w) (hx : Own w lb lo xs) (hy : Own w ob oo ys) (hne : lb ≠ ob) (hl : xs.length ≤ 1000000000)
    (hn : n = xs.length) (hm : m = ys.length) (hnm : ys.length = xs.length) (hs : takeS q xs ys = some zs) :
    Calls Tryz.prog 193 #[.slice (some ⟨lb, lo, none⟩) n lc, .string (tx q), .slice (some ⟨ob, oo, none⟩) m oc] w fun e w' => e = .returned (.tuple #[]) ∧ Fx (· = lb) w w' ∧ Own w' lb lo zs := by
  have hb := tx_beq0 q
  by_cases hq0 : q = 0
  · rw [decide_eq_true hq0] at hb
    unfold takeS at hs
    rw [if_pos hq0] at hs
    injection hs with hs; subst hs
    clear hq0
    subst hn
    go_enter Tryz.func193, Tryz.ntmps193
    go_wp2_with fail
    exact bodyPost_ret (results_none rfl _ _ _) rfl ⟨rfl, Fx.refl _ _, hx⟩
  · rw [decide_eq_false hq0] at hb
    unfold takeS at hs
    rw [if_neg hq0] at hs
    obtain ⟨hzl, hz⟩ := takeL_spec q xs ys zs hs
    have hzl := Lib.hid hzl
    have hz := Lib.hid hz
    clear hs hq0
    rw [hnm] at hm
    subst hm
    rename_i hzl0 hz0
    clear hzl0 hz0
    subst hn
    go_enter Tryz.func193, Tryz.ntmps193
    go_wp2_with fail
    go_loopw [6, 7, 12] (fun _ _ s12 wr => ∃ k : Nat, s12 = .int .i64 k ∧ k ≤ xs.length ∧ Fx (· = lb) w wr ∧ Own wr lb lo (zs.take k ++ xs.drop k)) (fun _ _ s12 _ => xs.length - (RowKit.intOf s12).toNat)
    case atStart => exact ⟨0, rfl, Nat.zero_le _, Fx.refl _ _, by simpa using hx⟩
    case round =>
      obtain ⟨k, rfl, hk, hf, ho⟩ := hrel
      by_cases hlt : k < xs.length
      · have hxk : ∃ x, xs[k]? = some x := ⟨xs[k], List.getElem?_eq_getElem hlt⟩
        obtain ⟨x, hxk⟩ := hxk
        obtain ⟨y, hyk, hok, hzk⟩ := hz.out k x hxk
        obtain ⟨tq, ty, sx⟩ := okT_ti hok
        have hm2 := mul_bd tq ty
        have sm : Sm (q * y) := ⟨by omega, by omega⟩
        have hGr := hG.fx hf (fun j e => by rw [e]; exact hx.1)
        have hoc := ho.2.2 k x (by rw [mid_get zs xs k hzl.out hlt]; exact hxk)
        have hkl : k < ys.length := (List.getElem?_eq_some_iff.1 hyk).1
        obtain ⟨hoc, hof⟩ := hoc
        obtain ⟨hyc, _⟩ := (hy.fx hf (fun e => hne e.symm)).2.2 k y hyk
        have hlb : lb < wr.heap.size := ho.2.1
        have hob : ob < wr.heap.size := (hy.fx hf (fun e => hne e.symm)).2.1
        have hxk := Lib.hid hxk
        have hyk := Lib.hid hyk
        have hzk := Lib.hid hzk
        have hset := Lib.hid (mid_set zs xs k hzl.out hlt _ hzk.out)
        have ho2 := Lib.hid ho
        rename_i hxk0 hyk0 hzk0 
        clear hxk0 hyk0 hzk0 ho hok
        have k0 : (0 : Int) ≤ (k : Int) := Int.natCast_nonneg _
        have k1 : (k : Int) < (xs.length : Int) := by omega
        have k2 : (k : Int) < (ys.length : Int) := by omega
        go_wp2_with fail
        go_region_with (first | (go_at_call 82; refine (Mul_ti q y tq ty _ (hGr.fr ?_)).mono ?_; (repeat (with_reducible first | assumption | exact Fr.refl _ | refine Fr.drew ?_ | refine Fr.drewN ?_ _ | refine Fr.alloc ?_ _ | (refine Fr.setCell ?_ (by simp only [World.size_alloc, World.size_drew, World.size_setCell]; omega) _) | refine Fr.trans ?_ (by assumption))); rintro e w1 ⟨rfl, hf1⟩; have c1 := hf1.keep (p := ⟨lb, lo + k, none⟩) hoc; have c2 := hf1.keep (p := ⟨ob, oo + k, none⟩) hyc; have c3 := hf1.keepf (p := ⟨lb, lo + k, none⟩) hoc hof) | (go_at_call 216; refine (Sub_sm x (q * y) sx sm _ (hGr.fr ?_)).mono ?_; (repeat (with_reducible first | assumption | exact Fr.refl _ | refine Fr.drew ?_ | refine Fr.drewN ?_ _ | refine Fr.alloc ?_ _ | (refine Fr.setCell ?_ (by simp only [World.size_alloc, World.size_drew, World.size_setCell]; omega) _) | refine Fr.trans ?_ (by assumption))); rintro e w2 ⟨rfl, hf2⟩; have d1 := hf2.keep c1; have d3 := hf2.keepf c1 c3))
        all_goals
          have hfr : Fr wr w2 := by repeat (with_reducible first | assumption | exact Fr.refl _ | refine Fr.drew ?_ | refine Fr.drewN ?_ _ | refine Fr.alloc ?_ _ | (refine Fr.setCell ?_ (by simp only [World.size_alloc, World.size_drew, World.size_setCell]; omega) _) | refine Fr.trans ?_ (by assumption))
          have hO := (ho2.out.fr hfr).set (k := k) (by simp; have := hzl.out; omega) (x - q * y)
          rw [hset.out] at hO
          have hF := (hf.fr hfr).setCell (q := ⟨lb, lo + k, none⟩) (.inl rfl) (sv (x - q * y))
          go_wp2_with fail
          go_roundw
          case rel => exact ⟨k + 1, by go_num, by omega, hF, hO⟩
          case measure => simp [RowKit.intOf]; omega
      · go_wp2_with fail
        go_end0
        refine ⟨rfl, hf, ?_⟩
        have : k = xs.length := by omega
        subst this
        rw [List.drop_length, List.append_nil, List.take_of_length_le (by have := hzl.out; omega)] at ho
        exact ho

set_option maxHeartbeats 1000000 in
theorem negate_any (lb lo lc : Nat) (xs : List Int) (w : World) (_hG : G w) (hx : Own w lb lo xs) (_hl : xs.length ≤ 1000000000) (hs : ∀ x ∈ xs, (tx x).size ≤ 1000000000) :
    Calls Tryz.prog 195 #[.slice (some ⟨lb, lo, none⟩) xs.length lc] w fun e w' => e = .returned (.tuple #[]) ∧ Fx (· = lb) w w' ∧ Own w' lb lo (xs.map (fun x => -x)) := by
  have hzl := Lib.hid (show (xs.map (fun x => -x)).length = xs.length by simp)
  have hz : ∀ (k : Nat) (x : Int), xs[k]? = some x → (xs.map (fun x => -x))[k]? = some (-x) := fun k x h => by rw [List.getElem?_map, h]; rfl
  generalize xs.map (fun x => -x) = zs at *
  have hz := Lib.hid hz
  rename_i hz0
  clear hz0
  go_enter Tryz.func195, Tryz.ntmps195
  go_wp2_with fail
  go_loopw [2, 3, 6] (fun _ _ s6 wr => ∃ k : Nat, s6 = .int .i64 k ∧ k ≤ xs.length ∧ Fx (· = lb) w wr ∧ Own wr lb lo (zs.take k ++ xs.drop k)) (fun _ _ s6 _ => xs.length - (RowKit.intOf s6).toNat)
  case atStart => exact ⟨0, rfl, Nat.zero_le _, Fx.refl _ _, by simpa using hx⟩
  case round =>
    obtain ⟨k, rfl, hk, hf, ho⟩ := hrel
    by_cases hlt : k < xs.length
    · obtain ⟨x, hxk⟩ : ∃ x, xs[k]? = some x := ⟨xs[k], List.getElem?_eq_getElem hlt⟩
      have hzk := hz.out k x hxk
      have hxs := hs x (List.mem_of_getElem? hxk)
      obtain ⟨hoc, hof⟩ := ho.2.2 k x (by rw [mid_get zs xs k hzl.out hlt]; exact hxk)
      have hset := Lib.hid (mid_set zs xs k hzl.out hlt _ hzk)
      have hlb : lb < wr.heap.size := ho.2.1
      have ho2 := Lib.hid ho
      clear hxk hzk ho
      go_wp2_with fail
      refine (Neg_any x _ hxs).mono ?_
      rintro e w2 ⟨rfl, hf2⟩
      have d1 := hf2.keep (p := ⟨lb, lo + k, none⟩) hoc
      have d3 := hf2.keepf (p := ⟨lb, lo + k, none⟩) hoc hof
      have hO := (ho2.out.fr hf2).set (k := k) (by simp; have := hzl.out; omega) (-x)
      rw [hset.out] at hO
      have hF := (hf.fr hf2).setCell (q := ⟨lb, lo + k, none⟩) (.inl rfl) (sv (-x))
      go_wp2_with fail
      go_roundw
      case rel => exact ⟨k + 1, by go_num, by omega, hF, hO⟩
      case measure => simp [RowKit.intOf]; omega
    · go_wp2_with fail
      go_end0
      refine ⟨rfl, hf, ?_⟩
      have : k = xs.length := by omega
      subst this
      rw [List.drop_length, List.append_nil, List.take_of_length_le (by have := hzl.out; omega)] at ho
      exact ho

end Go.Proofs.YtbpfkmpkadimeaaGreatDoor
