/-
  Contracts and laws for the statements of the law 43 of the seat, QH.
-/
import Derived.Test.YtphjfalibnnohaaGreatDoorQF
import Derived.OwnWalk
import Derived.Test.YtphjfalibnnohaaGreatDoorQA
import Derived.Test.YtphjfalibnnohaaGreatDoorQB
import Derived.Test.YtphjfalibnnohaaGreatDoorQC

/- row.CheckAll; lattice: check, longOf, longsOf, short. -/
namespace Go.Proofs.YtphjfalibnnohaaGreatDoor
open Go.RowKit Go.Lib
attribute [local go_sem ↓] Go.wp_at_zero Go.wp_at_succ

/-- the first error of rows of one length -/
def allE (n : Int) : List (List Int) → Int
  | [] => 0
  | r :: l => if rowE r ≠ 0 then rowE r else if (r.length : Int) ≠ n then 5 else allE n l

set_option maxHeartbeats 4000000 in
theorem CheckAll_ok (m : List (List Int)) (a : Option Addr) (cap n : Nat) (w : World) (hm : MatIs w a m) (hr : Rect n m) (hl : m.length ≤ 1000000) (he : ∀ r, r ∈ m → rowE r = 0) (hn : n ≤ 1000000) :
    Calls Tryz.prog 127 #[.slice a m.length cap, .int .i64 n] w fun e w' => e = .returned (.int .i64 0) ∧ Fr w w' := by
  replace hm := Lib.hid hm
  replace hr := Lib.hid hr
  replace he := Lib.hid he
  go_enter Tryz.func127, Tryz.ntmps127
  go_wp2_with fail
  go_loopg [10] m.length (fun k s10 wr => ∃ j : Nat, s10 = .int .i64 j ∧ j + k = m.length ∧ Fr w wr)
  case atStart => exact ⟨0, rfl, by omega, Fr.refl _⟩
  case round =>
    obtain ⟨j, rfl, hjk, hf⟩ := hrel
    by_cases hlt : j < m.length
    · obtain ⟨b, o, a', c', rfl, hc, hel⟩ := (hm.out.fr hf).at hlt
      have hck := Check_row m[j] a' c' wr hel (by rw [hr.out.row hlt]; omega)
      rw [he.out _ (List.getElem_mem hlt)] at hck
      rw [hr.out.row hlt] at hc hck
      clear hel
      have z0 : (0 : Int) ≤ (j : Int) := Int.natCast_nonneg _
      have z1 : (j : Int) < (m.length : Int) := by omega
      go_wp2_with fail
      refine hck.mono ?_
      clear hck
      rintro e w2 ⟨rfl, hf2⟩
      go_wp2_with fail
      go_roundg (gk - 1)
      case measure => omega
      case rel => exact ⟨j + 1, by go_num, by omega, hf.trans hf2⟩
    · have hd : decide (j < m.length) = false := decide_eq_false hlt
      go_wp2_with fail
      go_ret
      exact ⟨rfl, hf⟩

theorem latCheck_ok (m : List (List Int)) (a : Option Addr) (cap n : Nat) (w : World) (hm : MatIs w a m) (hr : Rect n m) (hl : m.length ≤ 12) (he : ∀ r, r ∈ m → rowE r = 0) (hn : n ≤ 12) :
    Calls Tryz.prog 94 #[.int .i64 n, .slice a m.length cap] w fun e w' => e = .returned (.int .i64 0) ∧ Fr w w' := by
  have hc := CheckAll_ok m a cap n w hm hr (by omega) he (by omega)
  clear hm he
  have d1 : decide ((n : Int) < 0) = false := decide_eq_false (by omega)
  go_enter Tryz.func94, Tryz.ntmps94
  go_wp2_with fail
  refine hc.mono ?_
  clear hc
  rintro e w2 ⟨rfl, hf2⟩
  go_wp2_with fail
  go_ret
  exact ⟨rfl, hf2⟩

def RowRet (w : World) (xs : List Int) (e : Ending) (w' : World) : Prop := ∃ g c, e = .returned (.slice (some ⟨g, 0, none⟩) xs.length c) ∧ Fr w w' ∧ w'.ownsRow w.heap.size 65 1 (.slice (some ⟨g, 0, none⟩) xs.length c) xs.length (xs.map sv)

set_option maxRecDepth 100000 in
set_option maxHeartbeats 4000000 in
theorem longOf_any (xs : List Int) (a : Option Addr) (cap : Nat) (w : World) (hG : G w) (hx : El w iv a xs) (hl : xs.length ≤ 1000000) (hb : ∀ x, x ∈ xs → Sm x) :
    Calls Tryz.prog 128 #[.slice a xs.length cap] w (RowRet w xs) := by
  obtain ⟨i0, hi, hz0, hz1, hz2⟩ := info_parts info65
  obtain ⟨n, hn⟩ : ∃ n, n = xs.length := ⟨_, rfl⟩
  rw [← hn] at hl
  replace hn := Lib.hid hn
  replace hx := Lib.hid hx
  replace hb := Lib.hid hb
  replace hG := Lib.hid hG
  go_enter Tryz.func128, Tryz.ntmps128
  rw [← hn.out]
  go_wp2_with (at_make; refine wpList_make_own _ rfl _ _ 177 rfl w.heap.size 65 i0 _ 1 Tryz.underlying177 hi hz0 hz1 _ _ _ n (by rfl) (by rfl) (by omega) (by rw [hz2]; omega) (by unfold maxLen; omega) (Nat.le_refl _) ?_; intro w2 hown2 hgr2)
  have hf2 : Fr w w2 := (Fr.refl w).grown hgr2 (fun k e => by cases e)
  replace hown2 := Lib.hid hown2
  clear hgr2
  go_loopg [3, 11] n (fun k s3 s11 wr => ∃ t : Nat, s11 = .int .i64 t ∧ t + k = n ∧ Fr w wr ∧ wr.ownsRow w.heap.size 65 1 s3 t ((xs.take t).map sv) ∧ s3 ≠ .slice none 0 0)
  case atStart => exact ⟨0, rfl, by omega, hf2, by simpa using hown2.out, by simp⟩
  case round =>
    obtain ⟨t, rfl, htk, hf, hown, hnn⟩ := hrel
    by_cases ht : t < n
    · obtain ⟨b2, o2, x, rfl, hbl2, hxt, hcell2⟩ := (hx.out.fr hf).at (i := t) (by rw [← hn.out]; exact ht)
      have hGr := hG.out.fr hf
      have hsx := hb.out x (List.mem_of_getElem? hxt)
      unfold Sm at hsx
      have hsn2 := Lib.hid (take_snoc hxt)
      replace hxt := Lib.hid hxt
      go_wp2_with fail
      refine (Of_any _ (by omega) (by omega) _ hGr).mono ?_
      rintro e w3 ⟨rfl, hf3⟩
      go_wp2_with (at_builtin; refine wpList_append_lies _ rfl _ _ 177 (by rfl) _ 65 _ _ 1 16 Tryz.underlying177 hi hz0 hz1 hz2 rfl (by decide) _ t _ (by rfl) (World.ownsRow.alloc (ownsRow_fr hown hf3) _) ⟨w3.heap.size, 0, none⟩ 1 1 [sv x] (by rfl) rfl (cell_one_newN _ _ _ _ (by simp)) (by simp [Value.oneCell']) (by decide) (by unfold maxLen; omega) (by omega) (by have := (hf.trans hf3).size; simp; omega) (w3.heap.size + 1) (by simp) ?_; intro gA capA wA hownA hgrowA hatA hltA)
      go_wp2_with fail
      go_roundg (gk - 1)
      case measure => omega
      case rel => exact ⟨t + 1, by go_num, by omega, ((hf.trans hf3).alloc _).grown hgrowA (fun k e => (hown.lt k e).1), by rw [hsn2.out, List.map_append]; exact hownA, by simp⟩
    · have hd : decide (t < n) = false := decide_eq_false ht
      obtain rfl : t = n := by omega
      obtain ⟨gb7, cp7, rfl⟩ := ownsRow_nn hown hnn
      rw [List.take_of_length_le (by rw [← hn.out]; omega)] at hown
      clear hnn
      go_wp2_with fail
      go_ret
      exact ⟨gb7, cp7, by rw [← hn.out]; rfl, hf, by rw [← hn.out]; exact hown⟩

theorem infoLong : (Tryz.prog.info? 177).map (fun i => (i.zero, i.size, i.bytes)) = some (some (.slice none 0 0), 1, 24) := by kernel_rfl

set_option maxHeartbeats 4000000 in
theorem longsOf_any (m : List (List Int)) (a : Option Addr) (cap : Nat) (w : World) (hG : G w) (hm : MatIs w a m) (hr : ∀ r, r ∈ m → r.length ≤ 1000000) (hl : m.length ≤ 1000000) (hb : ∀ r, r ∈ m → ∀ x, x ∈ r → Sm x) :
    Calls Tryz.prog 95 #[.slice a m.length cap] w (GridRet w 177 m) := by
  have hgn := gN_le hG
  obtain ⟨i1, ji, jz0, jz1, jz2⟩ := info_parts infoLong
  replace hm := Lib.hid hm
  replace hr := Lib.hid hr
  replace hb := Lib.hid hb
  replace hG := Lib.hid hG
  go_enter Tryz.func95, Tryz.ntmps95
  go_wp2_with fail
  go_loopg [3, 8] m.length (fun k s3 s8 wr => ∃ (j : Nat) (hs : List (Nat × Nat × Nat)), s8 = .int .i64 j ∧ j + k = m.length ∧ Fr w wr ∧ GG wr w.heap.size 177 s3 hs (m.take j) ∧ Hid (∀ h, h ∈ hs → w.heap.size ≤ h.1))
  case atStart => exact ⟨0, [], rfl, by omega, Fr.refl _, GG.nil _ _ _ hgn, fun h hm => by simp at hm⟩
  case round =>
    obtain ⟨j, hs, rfl, hjk, hf, hgg, hnew⟩ := hrel
    by_cases hlt : j < m.length
    · obtain ⟨b, o, a', c', rfl, hc, hel⟩ := (hm.out.fr hf).at hlt
      have hsn := take_snoc (List.getElem?_eq_getElem hlt)
      have hrj := hr.out _ (List.getElem_mem hlt)
      have hlong := longOf_any m[j] a' c' wr (hG.out.fr hf) hel hrj (hb.out _ (List.getElem_mem hlt))
      have hgl : (m.take j).length = j := by rw [List.length_take]; omega
      generalize m[j] = row at *
      obtain ⟨n, hn⟩ : ∃ n, n = row.length := ⟨_, rfl⟩
      rw [← hn] at hc hlong
      replace hn := Lib.hid hn
      replace hsn := Lib.hid hsn
      replace hgl := Lib.hid hgl
      replace hgg := Lib.hid hgg
      clear hel
      go_wp2_with fail
      refine hlong.mono ?_
      clear hlong
      rintro e w2 ⟨g, c, rfl, hf2, hown2⟩
      obtain ⟨hO, -, -, hgb, hcp⟩ := ownsRow_own (Nat.le_trans hgn hf.size) hown2
      have hgg2 := hgg.out.fr hf2
      have hne : u3.ownBlock ≠ some g := fun e => by have h9 := (hgg.out.own.lt g e).2; omega
      have hne2 : ∀ h', h' ∈ hs → h'.1 ≠ g := fun h' hm e2 => by have h9 := hgg.out.lt h' hm; omega
      have hown3 := hgg2.own
      rw [hgl.out] at hown3
      rw [← hn.out]
      replace hgg2 := Lib.hid hgg2
      replace hown2 := Lib.hid hown2
      go_wp2_with (at_builtin; refine wpList_append_lies _ rfl _ _ 142 (by rfl) _ 177 _ _ 1 24 Tryz.underlying142 ji jz0 jz1 jz2 rfl (by decide) _ j _ (by rfl) (World.ownsRow.alloc hown3 _) ⟨w2.heap.size, 0, none⟩ 1 1 [.slice (some ⟨g, 0, none⟩) n c] (by rfl) rfl (cell_one_newN _ _ _ _ (by simp)) (by simp [Value.oneCell']) (by decide) (by unfold maxLen; omega) (by omega) (by have := (hf.trans hf2).size; simp; omega) (w2.heap.size + 1) (by simp) ?_; intro gA capA wA hownA hgrowA hatA hltA)
      have hpush := (hgg2.out.fr ((Fr.refl _).alloc _)).pushN (hd := (g, 0, c)) (hO.fr ((Fr.refl _).alloc _)) hne2 hne hgl.out (by unfold hdr; rw [← hn.out]) hownA hgrowA (hatA.imp id (fun e => by rw [e]; simp))
      rw [← hsn.out] at hpush
      have hfrA : Fr w wA := (((hf.trans hf2).alloc _)).grown hgrowA (fun k e => (hgg2.out.own.lt k e).1)
      go_roundg (gk - 1)
      case measure => omega
      case rel => exact ⟨j + 1, _, by go_num, by omega, hfrA, hpush, fun h hm => by rcases List.mem_append.1 hm with h1 | h1; exact hnew.out h h1; (simp at h1; subst h1; exact Nat.le_trans hf.size hgb)⟩
    · have hd : decide (j < m.length) = false := decide_eq_false hlt
      have hjm : m.take j = m := List.take_of_length_le (by omega)
      rw [hjm] at hgg
      replace hjm := Lib.hid hjm
      go_wp2_with fail
      go_ret
      exact ⟨_, hs, rfl, hgg, hnew, hf⟩

def RowRetI (w : World) (xs : List Int) (e : Ending) (w' : World) : Prop := ∃ g c, e = .returned (.tuple #[.slice (some ⟨g, 0, none⟩) xs.length c, .int .i64 0]) ∧ Fr w w' ∧ w'.ownsRow w.heap.size 3 1 (.slice (some ⟨g, 0, none⟩) xs.length c) xs.length (xs.map iv)

set_option maxRecDepth 100000 in
set_option maxHeartbeats 4000000 in
theorem shortRow_any (xs : List Int) (b o c : Nat) (w : World) (hG : G w) (hx : Own w b o xs) (hl : xs.length ≤ 1000000) (hb : ∀ x, x ∈ xs → fitB x = true) :
    Calls Tryz.prog 135 #[.slice (some ⟨b, o, none⟩) xs.length c] w (RowRetI w xs) := by
  obtain ⟨i0, hi, hz0, hz1, hz2⟩ := info_parts infoInt
  obtain ⟨n, hn⟩ : ∃ n, n = xs.length := ⟨_, rfl⟩
  rw [← hn] at hl
  replace hn := Lib.hid hn
  replace hx := Lib.hid hx
  replace hb := Lib.hid hb
  replace hG := Lib.hid hG
  go_enter Tryz.func135, Tryz.ntmps135
  rw [← hn.out]
  go_wp2_with (at_make; refine wpList_make_own _ rfl _ _ 33 rfl w.heap.size 3 i0 _ 1 Tryz.underlying33 hi hz0 hz1 _ _ _ n (by rfl) (by rfl) (by omega) (by rw [hz2]; omega) (by unfold maxLen; omega) (Nat.le_refl _) ?_; intro w2 hown2 hgr2)
  have hf2 : Fr w w2 := (Fr.refl w).grown hgr2 (fun k e => by cases e)
  replace hown2 := Lib.hid hown2
  clear hgr2
  go_loopg [4, 14] n (fun k s4 s14 wr => ∃ t : Nat, s14 = .int .i64 t ∧ t + k = n ∧ Fr w wr ∧ wr.ownsRow w.heap.size 3 1 s4 t ((xs.take t).map iv) ∧ s4 ≠ .slice none 0 0)
  case atStart => exact ⟨0, rfl, by omega, hf2, by simpa using hown2.out, by simp⟩
  case round =>
    obtain ⟨t, rfl, htk, hf, hown, hnn⟩ := hrel
    by_cases ht : t < n
    · obtain ⟨b2, o2, x, hae, hbl2, hxt, hcell2⟩ := (hx.out.el.fr hf).at (i := t) (by rw [← hn.out]; exact ht)
      injection hae with hae; injection hae with hb2 ho2
      subst hb2; subst ho2
      have hfx := hb.out x (List.mem_of_getElem? hxt)
      unfold fitB at hfx
      have hfx := of_decide_eq_true hfx
      obtain ⟨x1, x2⟩ := hfx
      have hd1 : decide ((1000000000 : Int) < x) = false := decide_eq_false (by omega)
      have hd2 : decide (x < -1000000000) = false := decide_eq_false (by omega)
      have hsn2 := Lib.hid (take_snoc hxt)
      replace hxt := Lib.hid hxt
      go_wp2_with fail
      refine (Small_ok x (by omega) (by omega) _).mono ?_
      rintro e w3 ⟨rfl, hf3⟩
      go_wp2_with (at_builtin; refine wpList_append_lies _ rfl _ _ 33 (by rfl) _ 3 _ _ 1 8 Tryz.underlying33 hi hz0 hz1 hz2 rfl (by decide) _ t _ (by rfl) (World.ownsRow.alloc (ownsRow_fr hown hf3) _) ⟨w3.heap.size, 0, none⟩ 1 1 [iv x] (by rfl) rfl (cell_one_newN _ _ _ _ (by simp)) (by simp [Value.oneCell']) (by decide) (by unfold maxLen; omega) (by omega) (by have := (hf.trans hf3).size; simp; omega) (w3.heap.size + 1) (by simp) ?_; intro gA capA wA hownA hgrowA hatA hltA)
      go_wp2_with fail
      go_roundg (gk - 1)
      case measure => omega
      case rel => exact ⟨t + 1, by go_num, by omega, ((hf.trans hf3).alloc _).grown hgrowA (fun k e => (hown.lt k e).1), by rw [hsn2.out, List.map_append]; exact hownA, by simp⟩
    · have hd : decide (t < n) = false := decide_eq_false ht
      obtain rfl : t = n := by omega
      obtain ⟨gb7, cp7, rfl⟩ := ownsRow_nn hown hnn
      rw [List.take_of_length_le (by rw [← hn.out]; omega)] at hown
      clear hnn
      go_wp2_with fail
      go_ret2
      exact ⟨gb7, cp7, by rw [← hn.out]; rfl, hf, by rw [← hn.out]; exact hown⟩
end Go.Proofs.YtphjfalibnnohaaGreatDoor

/- lattice: short, form of one row, Of. -/
namespace Go.Proofs.YtphjfalibnnohaaGreatDoor
open Go.RowKit Go.Lib
attribute [local go_sem ↓] Go.wp_at_zero Go.wp_at_succ

/-- the cells of the two structs of the call's own -/
structure Two (w : World) (B n : Nat) (v : Value) : Prop where
  a0 : ∃ x, w.cell? ⟨B, 0, none⟩ = some x
  a1 : ∃ x, w.cell? ⟨B, 1, none⟩ = some x
  fa0 : w.frozen? ⟨B, 0, none⟩ = false
  fa1 : w.frozen? ⟨B, 1, none⟩ = false
  b0 : w.cell? ⟨B + 1, 0, none⟩ = some (.int .i64 n)
  b1 : w.cell? ⟨B + 1, 1, none⟩ = some v
  fb0 : w.frozen? ⟨B + 1, 0, none⟩ = false
  fb1 : w.frozen? ⟨B + 1, 1, none⟩ = false
theorem Two.fx {w w' : World} {B n : Nat} {v : Value} {p : Nat → Prop} (h : Two w B n v) (k : Fx p w w') (h0 : ¬ p B) (h1 : ¬ p (B + 1)) : Two w' B n v := by
  obtain ⟨⟨x, hx⟩, ⟨y, hy⟩, fa0, fa1, b0, b1, fb0, fb1⟩ := h
  exact ⟨⟨x, k.keep hx h0⟩, ⟨y, k.keep hy h0⟩, k.keepf hx fa0 h0, k.keepf hy fa1 h0, k.keep b0 h1, k.keep b1 h1, k.keepf b0 fb0 h1, k.keepf b1 fb1 h1⟩
theorem Two.set {w : World} {B n : Nat} {v : Value} (h : Two w B n v) (u : Value) : Two (w.setCell ⟨B + 1, 1, none⟩ u) B n u := by
  obtain ⟨⟨x, hx⟩, ⟨y, hy⟩, fa0, fa1, b0, b1, fb0, fb1⟩ := h
  have e1 : (⟨B + 1, 1, none⟩ : Addr) ≠ ⟨B, 0, none⟩ := fun e => by injection e with e; omega
  have e2 : (⟨B + 1, 1, none⟩ : Addr) ≠ ⟨B, 1, none⟩ := fun e => by injection e with e; omega
  have e3 : (⟨B + 1, 1, none⟩ : Addr) ≠ ⟨B + 1, 0, none⟩ := fun e => by injection e with _ e; omega
  refine ⟨⟨x, ?_⟩, ⟨y, ?_⟩, ?_, ?_, ?_, ?_, ?_, ?_⟩
  · rw [World.cell?_setCell_other _ _ _ _ e1]; exact hx
  · rw [World.cell?_setCell_other _ _ _ _ e2]; exact hy
  · rw [World.frozen?_setCell]; exact fa0
  · rw [World.frozen?_setCell]; exact fa1
  · rw [World.cell?_setCell_other _ _ _ _ e3]; exact b0
  · exact World.cell?_setCell_same' _ _ _ (by rw [b1]; rfl)
  · rw [World.frozen?_setCell]; exact fb0
  · rw [World.frozen?_setCell]; exact fb1

def LatRet (w : World) (n : Nat) (g : List (List Int)) (e : Ending) (w' : World) : Prop := ∃ a c, e = .returned (.tuple #[.agg #[.int .i64 n, .slice a g.length c], .int .i64 0]) ∧ (∀ W, Fx (· < w.heap.size) w' W → MatIs W a g) ∧ Fr w w'

set_option maxRecDepth 100000 in
set_option maxHeartbeats 4000000 in
theorem short_any (ob oc tF n : Nat) (hs : List (Nat × Nat × Nat)) (g : List (List Int)) (w : World) (hG : G w) (hg : GridIs w ob 0 hs g) (hl : g.length ≤ 1000000) (ht : tF ≤ g.length) (hr : ∀ r, r ∈ g → r.length ≤ 1000000) (hb : ∀ r, r ∈ g → ∀ x, x ∈ r → fitB x = true) :
    Calls Tryz.prog 97 #[.slice (some ⟨ob, 0, none⟩) tF oc, .int .i64 n] w (LatRet w n (g.take tF)) := by
  have hgn := gN_le hG
  obtain ⟨i1, ji, jz0, jz1, jz2⟩ := info_parts infoRow
  replace hg := Lib.hid hg
  replace hr := Lib.hid hr
  replace hb := Lib.hid hb
  replace hG := Lib.hid hG
  go_enter Tryz.func97, Tryz.ntmps97
  go_wp2_with fail
  have htwo : Two ((w.alloc (.cells #[.int .i64 0, .slice none 0 0] 108)).alloc (.cells #[.int .i64 n, .slice none 0 0] 108)) w.heap.size n (.slice none 0 0) := by
    have hfr : Fr (w.alloc (.cells #[.int .i64 0, .slice none 0 0] 108)) ((w.alloc (.cells #[.int .i64 0, .slice none 0 0] 108)).alloc (.cells #[.int .i64 n, .slice none 0 0] 108)) := (Fr.refl _).alloc _
    have p1 := new2a w (.int .i64 0) (.slice none 0 0) 108
    have p2 := new2b w (.int .i64 0) (.slice none 0 0) 108
    have p3 := new2a (w.alloc (.cells #[.int .i64 0, .slice none 0 0] 108)) (.int .i64 n) (.slice none 0 0) 108
    have p4 := new2b (w.alloc (.cells #[.int .i64 0, .slice none 0 0] 108)) (.int .i64 n) (.slice none 0 0) 108
    rw [World.size_alloc] at p3 p4
    exact ⟨⟨_, hfr.keep p1.1⟩, ⟨_, hfr.keep p2.1⟩, hfr.keepf p1.1 p1.2, hfr.keepf p2.1 p2.2, p3.1, p4.1, p3.2, p4.2⟩
  have hfr0 : Fr w ((w.alloc (.cells #[.int .i64 0, .slice none 0 0] 108)).alloc (.cells #[.int .i64 n, .slice none 0 0] 108)) := ((Fr.refl _).alloc _).alloc _
  go_loopg [15] tF (fun k s15 wr => ∃ (j : Nat) (hO : List (Nat × Nat × Nat)) (v : Value), s15 = .int .i64 j ∧ j + k = tF ∧ Fr w wr ∧ Hid (w.heap.size + 2 ≤ wr.heap.size) ∧ Two wr w.heap.size n v ∧ GI wr (w.heap.size + 2) 33 v hO (g.take j) ∧ Hid (∀ h, h ∈ hO → w.heap.size + 2 ≤ h.1))
  case atStart => exact ⟨0, [], _, rfl, by omega, hfr0, by show _ ≤ _; simp, htwo, GI.nil _ _ _ (by omega), fun h hm => by simp at hm⟩
  case round =>
    clear htwo hfr0
    obtain ⟨j, hO, v, rfl, hjk, hf, hsz, htw, hgi, hnew⟩ := hrel
    obtain ⟨⟨x0, a0⟩, ⟨x1, a1⟩, fa0, fa1, b0, b1, fb0, fb1⟩ := htw
    have htw := Lib.hid (show Two wr w.heap.size n v from ⟨⟨x0, a0⟩, ⟨x1, a1⟩, fa0, fa1, b0, b1, fb0, fb1⟩)
    by_cases hlt : j < tF
    · have hjl : j < g.length := by omega
      obtain ⟨rb, ro, rc, e1, ca1, cf1, ro1, bo1⟩ := (hg.out.fr hf).at hjl
      rw [Nat.zero_add] at ca1
      have hsn := take_snoc (List.getElem?_eq_getElem hjl)
      have hrj := hr.out _ (List.getElem_mem hjl)
      have hsh := shortRow_any g[j] rb ro rc wr (hG.out.fr hf) ro1 hrj (hb.out _ (List.getElem_mem hjl))
      have hgl : (g.take j).length = j := by rw [List.length_take]; omega
      generalize g[j] = row at *
      obtain ⟨m, hm⟩ : ∃ m, m = row.length := ⟨_, rfl⟩
      rw [← hm] at ca1 hsh
      replace hm := Lib.hid hm
      replace hsn := Lib.hid hsn
      replace hgl := Lib.hid hgl
      replace hgi := Lib.hid hgi
      replace ro1 := Lib.hid ro1
      replace e1 := Lib.hid e1
      clear a0 a1 fa0 fa1 b0 b1 fb0 fb1
      go_wp2_with fail
      refine hsh.mono ?_
      clear hsh
      rintro e w2 ⟨gg, c, rfl, hf2, hown2⟩
      obtain ⟨hO2, -, -, hgb, hcp⟩ := ownsRow_ownI (Nat.le_trans hgn hf.size) hown2
      have hgi2 := hgi.out.fr hf2
      have hne : v.ownBlock ≠ some gg := fun e => by have h9 := (hgi.out.own.lt gg e).2; omega
      have hne2 : ∀ h', h' ∈ hO → h'.1 ≠ gg := fun h' hm e2 => by have h9 := hgi.out.lt h' hm; omega
      have hown3 := hgi2.own
      rw [hgl.out] at hown3
      rw [← hm.out]
      have hvb : ∀ b, v.ownBlock = some b → w.heap.size + 2 ≤ b := fun b e => (hgi2.own.lt b e).1
      have htw2 := htw.out.fx (p := fun _ => False) (Fx.of_fr hf2) (fun e => e) (fun e => e)
      obtain ⟨⟨y0, a0⟩, ⟨y1, a1⟩, fa0, fa1, b0, b1, fb0, fb1⟩ := htw2
      have htw2 := Lib.hid (show Two w2 w.heap.size n v from ⟨⟨y0, a0⟩, ⟨y1, a1⟩, fa0, fa1, b0, b1, fb0, fb1⟩)
      clear a0 a1 fa0 fa1 b0
      replace hgi2 := Lib.hid hgi2
      replace hown2 := Lib.hid hown2
      replace hvb := Lib.hid hvb
      have hszz := hsz.out
      have htwA : ∀ wA : World, (w2.alloc (.cells #[.slice (some ⟨gg, 0, none⟩) m c] 33)).grownBy wA v.ownBlock → Two wA w.heap.size n v := fun wA hgw =>
        (htw2.out.fx (p := fun _ => False) (Fx.of_fr ((Fr.refl w2).alloc _)) (fun e => e) (fun e => e)).fx (Fx.of_grown hgw) (fun e => by have := hvb.out _ e; omega) (fun e => by have := hvb.out _ e; omega)
      replace htwA := Lib.hid htwA
      go_wp2_with (at_builtin; refine wpList_append_lies _ rfl _ _ 77 (by rfl) _ 33 _ _ 1 24 Tryz.underlying77 ji jz0 jz1 jz2 rfl (by decide) _ j _ (by rfl) (World.ownsRow.alloc hown3 _) ⟨w2.heap.size, 0, none⟩ 1 1 [.slice (some ⟨gg, 0, none⟩) m c] (by rfl) rfl (cell_one_newN _ _ _ _ (by simp)) (by simp [Value.oneCell']) (by decide) (by unfold maxLen; omega) (by omega) (by have := (hf.trans hf2).size; have := hf2.size; simp; omega) (w2.heap.size + 1) (by simp) ?_; intro gA capA wA hownA hgrowA hatA hltA; have htw3 := htwA.out wA hgrowA; have hbb := htw3.b1; have hfb := htw3.fb1; replace htw3 := Lib.hid htw3)
      have hpush := (hgi2.out.fr ((Fr.refl w2).alloc _)).pushN (hd := (gg, 0, c)) (hO2.fr ((Fr.refl w2).alloc _)) hne2 hne hgl.out (by unfold hdr; rw [← hm.out]) hownA hgrowA (hatA.imp id (fun e => by rw [e]; simp))
      rw [← hsn.out] at hpush
      have hfrA : Fr w wA := (((hf.trans hf2).alloc _)).grown hgrowA (fun k e => by have := hvb.out k e; omega)
      have hfx9 : Fx (· = w.heap.size + 1) wA (wA.setCell ⟨w.heap.size + 1, 1, none⟩ (.slice (some ⟨gA, 0, none⟩) (j + 1) capA)) := Fx.setCell (p := (· = w.heap.size + 1)) (q := ⟨w.heap.size + 1, 1, none⟩) (Fx.refl _ wA) (.inl rfl) _
      have hpush2 := hpush.fx hfx9 (fun b e e2 => by have e3 : b = w.heap.size + 1 := e2; have h9 := (hpush.own.lt b e).1; omega) (fun hd hm9 e2 => by rcases List.mem_append.1 hm9 with h1 | h1; (have e3 : hd.1 = w.heap.size + 1 := e2; have := hnew.out hd h1; omega); (simp at h1; subst h1; have e3 : gg = w.heap.size + 1 := e2; omega))
      have htw4 := htw3.out.set (.slice (some ⟨gA, 0, none⟩) (j + 1) capA)
      have hfr9 : Fr w (wA.setCell ⟨w.heap.size + 1, 1, none⟩ (.slice (some ⟨gA, 0, none⟩) (j + 1) capA)) := hfrA.setCell (p := ⟨w.heap.size + 1, 1, none⟩) (by simp) _
      go_roundg (gk - 1)
      case measure => omega
      case rel => exact ⟨j + 1, _, _, by go_num, by omega, hfr9, Lib.hid (by have h7 := hf2.size; have h8 := hgrowA.size; have h9 := hszz; simp at h8; simp; omega), htw4, hpush2, fun h hm9 => by rcases List.mem_append.1 hm9 with h1 | h1; exact hnew.out h h1; (simp at h1; subst h1; exact Nat.le_trans hsz.out hgb)⟩
    · have hd : decide (j < tF) = false := decide_eq_false hlt
      obtain rfl : j = tF := by omega
      obtain ⟨a9, c9, rfl, -⟩ := ownsRow_slice hgi.own
      have hgl : (g.take j).length = j := by rw [List.length_take]; omega
      rw [hgl] at hgi b1 htw
      go_wp2_with fail
      have q0 : (wr.setCell ⟨w.heap.size, 0, none⟩ (.int .i64 n)).cell? ⟨w.heap.size, 0, none⟩ = some (.int .i64 n) := World.cell?_setCell_same' _ _ _ (by rw [a0]; rfl)
      have e1 : (⟨w.heap.size, 0, none⟩ : Addr) ≠ ⟨w.heap.size, 1, none⟩ := fun e => by injection e with _ e; omega
      have q1 : ((wr.setCell ⟨w.heap.size, 0, none⟩ (.int .i64 n)).setCell ⟨w.heap.size, 1, none⟩ (.slice a9 j c9)).cell? ⟨w.heap.size, 1, none⟩ = some (.slice a9 j c9) := World.cell?_setCell_same' _ _ _ (by rw [World.cell?_setCell_other _ _ _ _ e1, a1]; rfl)
      refine bodyPost_ret (v := .tuple #[.agg #[.int .i64 n, .slice a9 j c9], .int .i64 0]) (by simp [results, Tryz.results97, go_sem, q0, q1]) rfl ⟨a9, c9, by rw [hgl], ?_, (hf.setCell (p := ⟨w.heap.size, 0, none⟩) (by simp) _).setCell (p := ⟨w.heap.size, 1, none⟩) (by simp) _⟩
      have hfx : Fx (· = w.heap.size) wr ((wr.setCell ⟨w.heap.size, 0, none⟩ (.int .i64 n)).setCell ⟨w.heap.size, 1, none⟩ (.slice a9 j c9)) := Fx.setCell (p := (· = w.heap.size)) (q := ⟨w.heap.size, 1, none⟩) (Fx.setCell (p := (· = w.heap.size)) (q := ⟨w.heap.size, 0, none⟩) (Fx.refl _ wr) (.inl rfl) _) (.inl rfl) _
      intro W hW
      exact ((hgi.fx hfx (fun b e e2 => by have e3 : b = w.heap.size := e2; have h9 := (hgi.own.lt b e).1; omega) (fun hd hm9 e2 => by have e3 : hd.1 = w.heap.size := e2; have := hnew.out hd hm9; omega)).fx hW (fun b e e2 => by have e3 : b < w.heap.size := e2; have h9 := (hgi.own.lt b e).1; omega) (fun hd hm9 e2 => by have e3 : hd.1 < w.heap.size := e2; have := hnew.out hd hm9; omega)).mat
end Go.Proofs.YtphjfalibnnohaaGreatDoor

/- lattice: form of one row, Of at one row. -/
namespace Go.Proofs.YtphjfalibnnohaaGreatDoor
open Go.RowKit Go.Lib
attribute [local go_sem ↓] Go.wp_at_zero Go.wp_at_succ

set_option maxRecDepth 100000 in
set_option maxHeartbeats 4000000 in
theorem form1_any (ob oo oc n : Nat) (x : Int) (xs : List Int) (hs : List (Nat × Nat × Nat)) (w : World) (hg : GridIs w ob oo hs [x :: xs]) (hx : 0 < x) (hsx : Sm x) (hn : 1 ≤ n) (hn2 : n ≤ 1000000) (hl : xs.length ≤ 1000000) (hoc : 1 ≤ oc) :
    Calls Tryz.prog 96 #[.slice (some ⟨ob, oo, none⟩) 1 oc, .int .i64 n] w fun e w' => e = .returned (.slice (some ⟨ob, oo, none⟩) 1 oc) ∧ Fx (gb ob hs) w w' ∧ GridIs w' ob oo hs [x :: xs] := by
  have hb := tx_beq0 x
  rw [decide_eq_false (show ¬ x = 0 by omega)] at hb
  have hsz := Lib.hid hsx.size
  replace hg := Lib.hid hg
  replace hsx := Lib.hid hsx
  go_enter Tryz.func96, Tryz.ntmps96
  go_wp2_with fail
  go_loopg [5, 6] 1 (fun k s5 s6 wr => ∃ d : Nat, s5 = .int .i64 d ∧ s6 = .int .i64 d ∧ d + k = 1 ∧ Hid (GridIs wr ob oo hs [x :: xs]) ∧ Fx (gb ob hs) w wr)
  case atStart => exact ⟨0, rfl, rfl, rfl, hg, Fx.refl _ _⟩
  case round =>
    obtain ⟨d, rfl, rfl, hdk, hg1, hfx1⟩ := hrel
    by_cases hd : d = 0
    · subst hd
      obtain rfl : gk = 1 := by omega
      obtain ⟨wo, rfl⟩ : ∃ wo : World, wo = wr := ⟨_, rfl⟩
      go_wp2_with fail
      go_loopg [5] 0 (fun _ s5 wr2 => s5 = .int .i64 0 ∧ wo = wr2)
      case atStart => exact ⟨rfl, rfl⟩
      case round =>
        obtain ⟨rfl, rfl⟩ := hrel
        go_wp2_with fail
        go_loopg [7, 8] 1 (fun m s7 s8 wr3 => ∃ i : Nat, s8 = .int .i64 i ∧ i + m = 1 ∧ s7 = .int .i64 ((i : Int) - 1) ∧ Qt wo wr3)
        case atStart => exact ⟨0, rfl, rfl, rfl, Qt.refl _⟩
        case round =>
          obtain ⟨i, rfl, him, rfl, hq3⟩ := hrel
          by_cases hi : i = 0
          · subst hi
            have hgr3 := hg1.out.fr hq3.fr
            obtain ⟨bi, oi, ki, hsi, cai, cfi, roi, boi⟩ := hgr3.at (i := 0) (by simp)
            have cei := (roi.2.2 0 x rfl).1
            simp only [Nat.add_zero, List.getElem_cons_zero, List.length_cons] at cai cfi cei
            have zl : (0 : Int) < ((xs.length + 1 : Nat) : Int) := by omega
            have zm : 0 < xs.length + 1 := by omega
            go_wp2_with fail
            go_quiet (fail)
            go_wp2_with fail
            go_roundg 0
            case measure => omega
            case rel => exact ⟨1, by go_num, by omega, by go_num, by repeat (with_reducible first | assumption | exact Qt.refl _ | refine Qt.drew ?_ | refine Qt.drewN ?_ _ | refine Qt.trans ?_ (by assumption))⟩
          · obtain rfl : i = 1 := by omega
            have hgr3 := hg1.out.fr hq3.fr
            have hfx3 := hfx1.fr hq3.fr
            obtain ⟨bi, oi, ki, hsi, cai, cfi, roi, boi⟩ := hgr3.at (i := 0) (by simp)
            have cei := (roi.2.2 0 x rfl).1
            simp only [Nat.add_zero, List.getElem_cons_zero, List.length_cons] at cai cfi cei
            have zl : (0 : Int) < ((xs.length + 1 : Nat) : Int) := by omega
            have zm : 0 < xs.length + 1 := by omega
            replace hgr3 := Lib.hid hgr3
            go_wp2_with fail
            go_region
            have hgX : GridIs ((wr.setCell ⟨ob, oo, none⟩ (.slice (some ⟨bi, oi, none⟩) (xs.length + 1) ki)).setCell ⟨ob, oo, none⟩ (.slice (some ⟨bi, oi, none⟩) (xs.length + 1) ki)).drew ob oo hs [x :: xs] := (hgr3.out.same (i := 0) cai).fr (Fr.refl _).drew
            have hfX : Fx (gb ob hs) w ((wr.setCell ⟨ob, oo, none⟩ (.slice (some ⟨bi, oi, none⟩) (xs.length + 1) ki)).setCell ⟨ob, oo, none⟩ (.slice (some ⟨bi, oi, none⟩) (xs.length + 1) ki)).drew :=
              ((hfx3.setCell (q := ⟨ob, oo, none⟩) (.inl (.inl rfl)) _).setCell (q := ⟨ob, oo, none⟩) (.inl (.inl rfl)) _).drew
            generalize ((wr.setCell ⟨ob, oo, none⟩ (.slice (some ⟨bi, oi, none⟩) (xs.length + 1) ki)).setCell ⟨ob, oo, none⟩ (.slice (some ⟨bi, oi, none⟩) (xs.length + 1) ki)).drew = W at hgX hfX ⊢
            clear hgr3 hfx3 hsi cai cfi roi boi cei hg1 hfx1
            go_wp2_with fail
            go_loopg [9, 10] 0 (fun _ s9 s10 wr4 => s9 = .bool false ∧ s10 = .int .i64 1 ∧ W = wr4)
            case atStart => exact ⟨rfl, rfl, rfl⟩
            case round =>
              obtain ⟨rfl, rfl, rfl⟩ := hrel
              obtain ⟨bi, oi, ki, hsi, cai, cfi, roi, boi⟩ := hgX.at (i := 0) (by simp)
              have cei := (roi.2.2 0 x rfl).1
              simp only [Nat.add_zero, List.getElem_cons_zero, List.length_cons] at cai cfi cei
              replace hgX := Lib.hid hgX
              go_wp2_with fail
              refine (Sign_any x _).mono ?_
              rintro e w' ⟨rfl, rfl⟩
              rw [Int.sign_eq_one_of_pos hx]
              go_wp2_with fail
              go_loopg [143] 0 (fun _ s1 wr5 => s1 = .int .i64 0 ∧ W = wr5)
              case atStart => exact ⟨rfl, rfl⟩
              case round =>
                obtain ⟨rfl, rfl⟩ := hrel
                go_wp2_with fail
                go_roundg 0
                case measure => omega
                case rel => exact ⟨1, by go_num, by go_num, rfl, hgX, hfX⟩
    · obtain rfl : d = 1 := by omega
      by_cases hn1 : 1 < n
      all_goals
        first
        | have hdn : decide (1 < n) = true := decide_eq_true hn1
        | have hdn : decide (1 < n) = false := decide_eq_false hn1
        go_wp2_with fail
        go_ret
        exact ⟨rfl, hfx1, hg1.out⟩
end Go.Proofs.YtphjfalibnnohaaGreatDoor

/- lattice.Of at one row. -/
namespace Go.Proofs.YtphjfalibnnohaaGreatDoor
open Go.RowKit Go.Lib
attribute [local go_sem ↓] Go.wp_at_zero Go.wp_at_succ

set_option maxRecDepth 100000 in
set_option maxHeartbeats 4000000 in
theorem Of_one (x : Int) (xs : List Int) (a : Option Addr) (cap n : Nat) (w : World) (hG : G w) (hm : MatIs w a [x :: xs]) (hok : TabOk n [x :: xs]) (hx : 0 < x) (hn : 1 ≤ n) :
    Calls Tryz.prog 67 #[.int .i64 n, .slice a 1 cap] w (LatRet w n [x :: xs]) := by
  have hfit := hok.2.2.2
  have hr1 := hok.2.2.1
  have hlen : (x :: xs).length = n := hr1 _ (by simp)
  have hsm : ∀ r, r ∈ [x :: xs] → ∀ y, y ∈ r → Sm y := fun r hr y hy => fit_sm (hfit r hr y hy)
  have hn12 := hok.2.1
  have hxl : xs.length ≤ 1000000 := by simp at hlen; omega
  have hrl : ∀ r, r ∈ [x :: xs] → r.length ≤ 1000000 := fun r hr => by rw [hr1 r hr]; omega
  have hsx : Sm x := hsm (x :: xs) (List.mem_cons_self ..) x (List.mem_cons_self ..)
  have hE : ∀ r, r ∈ [x :: xs] → rowE r = 0 := fun r hr =>
    rowE_ok (by rw [hr1 r hr]; omega) (by
      rw [List.any_eq_false]
      intro y hy
      rw [hfit r hr y hy]; simp)
  have hgr2 : ∀ r, r ∈ [x :: xs] → ∀ y, y ∈ r → fitB y = true := hfit
  have hchk := fun W hW => latCheck_ok [x :: xs] a cap n W (hm.fr (w' := W) hW) hr1 (by simp) hE hn12
  have hlongs := fun W hW => longsOf_any [x :: xs] a cap W (hG.fr hW) (hm.fr hW) hrl (by simp) hsm
  have hform := fun ob oo oc hs W hg hoc => form1_any ob oo oc n x xs hs W hg hx hsx hn (by omega) hxl hoc
  have hG1 := Lib.hid hG
  replace hgr2 := Lib.hid hgr2
  replace hfit := Lib.hid hfit
  replace hrl := Lib.hid hrl
  replace hchk := Lib.hid hchk
  replace hlongs := Lib.hid hlongs
  replace hform := Lib.hid hform
  clear hm hok hG hr1 hlen hsm hE hsx
  have hgn := gN_le hG1.out
  go_enter Tryz.func67, Tryz.ntmps67
  go_wp2_with fail
  refine (hchk.out _ ((Fr.refl w).alloc _)).mono ?_
  rintro e w1 ⟨rfl, hf1⟩
  go_wp2_with fail
  refine (hlongs.out _ (((Fr.refl w).alloc _).trans hf1)).mono ?_
  rintro e w2 ⟨v, hs, rfl, hgg, hnew, hf2⟩
  obtain ⟨ob, oc, rfl⟩ := ownsRow_pos hgg.own (by simp)
  obtain ⟨hg, -, hgb, hgc⟩ := hgg.grid
  clear hgg
  have hg9 := Lib.hid hg
  go_wp2_with fail
  refine (hform.out ob 0 oc hs _ hg9.out hgc).mono ?_
  rintro e w3 ⟨rfl, hfx3, hg3⟩
  replace hg3 := Lib.hid hg3
  have hfr3 : Fr (w.alloc (.cells #[.int .i64 0, .slice none 0 0] 108)) w3 := ((Fx.of_fr (hf1.trans hf2)).trans hfx3).toFr (fun k hk e => by
    have h1 := hf1.size
    rcases e with rfl | ⟨h, hm9, rfl⟩
    · omega
    · have := hnew.out h hm9; omega)
  go_wp2_with fail
  refine (short_any ob oc 1 n hs [x :: xs] w3 (hG1.out.fr (((Fr.refl w).alloc _).trans hfr3)) hg3.out (by simp) (by simp) hrl.out hgr2.out).mono ?_
  rintro e w4 ⟨a4, c4, rfl, hm4, hf4⟩
  have p1 := new2a w (.int .i64 0) (.slice none 0 0) 108
  have p2 := new2b w (.int .i64 0) (.slice none 0 0) 108
  have c1 := (hfr3.trans hf4).keep p1.1
  have c2 := (hfr3.trans hf4).keep p2.1
  have c3 := (hfr3.trans hf4).keepf p1.1 p1.2
  have c5 := (hfr3.trans hf4).keepf p2.1 p2.2
  replace hm4 := Lib.hid hm4
  clear p1 p2
  go_wp2_with fail
  have e1 : (⟨w.heap.size, 0, none⟩ : Addr) ≠ ⟨w.heap.size, 1, none⟩ := fun e => by injection e with _ e; omega
  have q0 : (w4.setCell ⟨w.heap.size, 0, none⟩ (.int .i64 n)).cell? ⟨w.heap.size, 0, none⟩ = some (.int .i64 n) := World.cell?_setCell_same' _ _ _ (by rw [c1]; rfl)
  have q1 : ((w4.setCell ⟨w.heap.size, 0, none⟩ (.int .i64 n)).setCell ⟨w.heap.size, 1, none⟩ (.slice a4 1 c4)).cell? ⟨w.heap.size, 1, none⟩ = some (.slice a4 1 c4) := World.cell?_setCell_same' _ _ _ (by rw [World.cell?_setCell_other _ _ _ _ e1, c2]; rfl)
  have hfw : Fr w w4 := ((Fr.refl w).alloc _).trans (hfr3.trans hf4)
  refine bodyPost_ret (v := .tuple #[.agg #[.int .i64 n, .slice a4 1 c4], .int .i64 0]) (by simp [results, Tryz.results67, go_sem, q0, q1]) rfl ⟨a4, c4, rfl, ?_, (hfw.setCell (p := ⟨w.heap.size, 0, none⟩) (by simp) _).setCell (p := ⟨w.heap.size, 1, none⟩) (by simp) _⟩
  have hfx : Fx (· = w.heap.size) w4 ((w4.setCell ⟨w.heap.size, 0, none⟩ (.int .i64 n)).setCell ⟨w.heap.size, 1, none⟩ (.slice a4 1 c4)) := Fx.setCell (p := (· = w.heap.size)) (q := ⟨w.heap.size, 1, none⟩) (Fx.setCell (p := (· = w.heap.size)) (q := ⟨w.heap.size, 0, none⟩) (Fx.refl _ w4) (.inl rfl) _) (.inl rfl) _
  have hs3 := hfr3.size
  have hs3 : w.heap.size < w3.heap.size := by simp at hs3; omega
  intro W hW
  exact hm4.out W ((hfx.mono (fun k e => by have e2 : k = w.heap.size := e; show k < _; omega)).trans (hW.mono (fun k e => by have e2 : k < w.heap.size := e; show k < _; omega)))
end Go.Proofs.YtphjfalibnnohaaGreatDoor

/- spelling.Relations where the kernel has one row with a positive head. -/
namespace Go.Proofs.YtphjfalibnnohaaGreatDoor
open Go.RowKit Go.Lib
attribute [local go_sem ↓] Go.wp_at_zero Go.wp_at_succ

theorem infoMat : (Tryz.prog.info? 33).map (fun i => (i.zero, i.size, i.bytes)) = some (some (.slice none 0 0), 1, 24) := by kernel_rfl

/-- the cells of a matrix of ints -/
def rowVs (A : List Sy) : List Value := A.map fun x => .slice x.ra x.row.length x.rc
theorem rowVs_mat {w w' : World} {base : Nat} {g n cap : Nat} {A : List Sy} (h : w'.ownsRow base 33 1 (.slice (some ⟨g, 0, none⟩) n cap) n (rowVs A)) (hel : ∀ x, x ∈ A → El w iv x.ra x.row) (hf : Fr w w') : MatIs w' (some ⟨g, 0, none⟩) (A.map Sy.row) := by
  obtain ⟨-, -, hg, -, hc⟩ := ownsRow_some h
  refine .inr ⟨g, 0, rfl, hg, fun i xs hx => ?_⟩
  rw [List.getElem?_map] at hx
  cases hA : A[i]? with
  | none => rw [hA] at hx; simp at hx
  | some x =>
    rw [hA] at hx
    injection hx with hx
    subst hx
    refine ⟨x.ra, x.rc, ?_, (hel x (List.mem_of_getElem? hA)).fr hf⟩
    rw [Nat.zero_add]
    exact (hc i _ (by unfold rowVs; rw [List.getElem?_map, hA]; rfl)).1

def RelRet (w : World) (m : List (List Int)) (e : Ending) (w' : World) : Prop := ∃ a c, e = .returned (.tuple #[.slice a m.length c, .int .i64 0]) ∧ MatIs w' a m ∧ Fr w w'

set_option maxRecDepth 100000 in
set_option maxHeartbeats 4000000 in
theorem Relations_one (d F : Nat) (aN aA : Option Addr) (cN cA : Nat) (N A : List Sy) (x : Int) (xs : List Int) (w : World) (hG : G w) (hn : NotIs w aN aA cA N A) (hok : NotOk d N A) (hd : 1 ≤ d) (hA : 1 ≤ A.length) (hk : kerS F d (A.map Sy.row) = some [x :: xs]) (hx : 0 < x) (hxl : (x :: xs).length = A.length) (hfit : ∀ y, y ∈ x :: xs → fitB y = true) :
    Calls Tryz.prog 35 #[.agg #[.slice aN N.length cN, .slice aA A.length cA]] w (RelRet w [x :: xs]) := by
  obtain ⟨i0, hi, hz0, hz1, hz2⟩ := info_parts infoMat
  have hn60 := hok.n60
  have ha6 := hok.a6
  have hd12 := hok.d12
  have hchk := fun W (hW : Fr w W) => SCheck_ok d aN aA cN cA N A W (hn.fr hW) hok
  have hacc := hn.accs
  have htab : TabOk d (A.map Sy.row) := ⟨by rw [List.length_map]; omega, hd12, fun r hr => by obtain ⟨z, hz, rfl⟩ := List.mem_map.1 hr; exact hok.row z (List.mem_append_right _ hz), fun r hr y hy => by obtain ⟨z, hz, rfl⟩ := List.mem_map.1 hr; exact hok.fit z (List.mem_append_right _ hz) y hy⟩
  have hker := fun W (hW : Fr w W) a cap (hm : MatIs W a (A.map Sy.row)) => Kernel_any (A.map Sy.row) [x :: xs] a cap d F W (hG.fr hW) hm htab hd (by rw [List.length_map]; exact hA) hk
  have hof := fun W (hW : Fr w W) a cap (hm : MatIs W a [x :: xs]) => Of_one x xs a cap A.length W (hG.fr hW) hm ⟨by simp, by omega, fun r hr => by simp at hr; subst hr; exact hxl, fun r hr y hy => by simp at hr; subst hr; exact hfit y hy⟩ hx hA
  obtain ⟨n, hnn⟩ : ∃ n, n = A.length := ⟨_, rfl⟩
  rw [List.length_map] at hker
  have hone : ([x :: xs] : List (List Int)).length = 1 := rfl
  rw [← hnn] at hchk hker hof hA ha6 ⊢
  replace hchk := Lib.hid hchk
  replace hker := Lib.hid hker
  replace hof := Lib.hid hof
  replace hacc := Lib.hid hacc
  replace hnn := Lib.hid hnn
  replace hone := Lib.hid hone
  have p1 := new2a w (.slice aN N.length cN) (.slice aA n cA) 30
  have p2 := new2b w (.slice aN N.length cN) (.slice aA n cA) 30
  have hfA : Fr w (w.alloc (.cells #[.slice aN N.length cN, .slice aA n cA] 30)) := (Fr.refl w).alloc _
  replace hfA := Lib.hid hfA
  replace p1 := Lib.hid p1.1
  replace p2 := Lib.hid p2.1
  clear hn hok hk htab hfit hG
  go_enter Tryz.func35, Tryz.ntmps35
  go_wp2_with fail
  refine (hchk.out _ hfA.out).mono ?_
  rintro e w1 ⟨rfl, hf1⟩
  have q1 := hf1.keep p1.out
  have q2 := hf1.keep p2.out
  have hfw := hfA.out.trans hf1
  clear p1 p2 hfA hf1 hchk
  go_wp2_with fail
  go_loopg [5, 19] n (fun k s5 s19 wr => ∃ j : Nat, s19 = .int .i64 j ∧ j + k = n ∧ Fr w1 wr ∧ wr.ownsRow w1.heap.size 33 1 s5 j (rowVs (A.take j)))
  case atStart => exact ⟨0, rfl, by omega, Fr.refl _, World.ownsRow_nil _ _ _ _⟩
  case round =>
    obtain ⟨j, rfl, hjk, hf, hown⟩ := hrel
    by_cases hj : j < n
    · have hdJ : decide (j < n) = true := decide_eq_true hj
      obtain ⟨b, o, y, rfl, hb, hyj, hc1, hc2, -⟩ := (hacc.out.fr (hfw.trans hf)).at (i := j) (by rw [← hnn.out]; exact hj)
      have hsn : rowVs (A.take (j + 1)) = rowVs (A.take j) ++ [.slice y.ra y.row.length y.rc] := by unfold rowVs; rw [take_snoc hyj, List.map_append]; rfl
      generalize y.row.length = yl at *
      generalize y.ra = ya at *
      generalize y.rc = yc at *
      generalize y.nm = nm at *
      replace hsn := Lib.hid hsn
      clear hyj
      have a1 := new2a wr (.string nm) (.slice ya yl yc) 35
      have a2 := new2b wr (.string nm) (.slice ya yl yc) 35
      have y1 : (j : Int) < (n : Int) := by omega
      have y0 : (0 : Int) ≤ (j : Int) := by omega
      have hfB : Fr wr (wr.alloc (.cells #[.string nm, .slice ya yl yc] 35)) := (Fr.refl wr).alloc _
      have hownB := ownsRow_fr hown hfB
      replace hfB := Lib.hid hfB
      have hz9 := hf.size
      replace a1 := Lib.hid a1.1
      replace a2 := a2.1
      go_wp2_with (at_builtin; refine wpList_append_lies _ rfl _ _ 77 (by rfl) w1.heap.size 33 i0 _ 1 24 Tryz.underlying77 hi hz0 hz1 hz2 rfl (by decide) _ j _ (by rfl) (World.ownsRow.alloc hownB _) ⟨wr.heap.size + 1, 0, none⟩ 1 1 [.slice ya yl yc] (by rfl) rfl (cell_one_newN _ _ _ _ (by simp)) (by simp [Value.oneCell']) (by decide) (by unfold maxLen; omega) (by omega) (by simp; omega) (wr.heap.size + 1 + 1) (by simp) ?_; intro gA capA wA hownA hgrowA hatA hltA)
      rw [← hsn.out] at hownA
      have hfZ : Fr w1 wA := ((hf.trans hfB.out).alloc _).grown hgrowA (fun k e => ownsRow_own_ge hown k e)
      go_wp2_with fail
      go_roundg (gk - 1)
      case measure => omega
      case rel => exact ⟨j + 1, by go_num, by omega, hfZ, hownA⟩
    · obtain rfl : j = n := by omega
      have hdJ : decide (j < j) = false := decide_eq_false (by omega)
      obtain ⟨g, cap, rfl⟩ := ownsRow_pos hown hA
      rw [List.take_of_length_le (by rw [← hnn.out]; exact Nat.le_refl _)] at hown
      have hmat := rowVs_mat hown hacc.out.2 (hfw.trans hf)
      have hk1 := hker.out _ (hfw.trans hf) _ cap hmat
      replace hk1 := Lib.hid hk1
      clear hown hmat hker
      go_wp2_with fail
      refine hk1.out.mono ?_
      rintro e w2 ⟨a2, c2, rfl, hm2, hf2⟩
      rw [hone.out]
      have hl1 := hof.out w2 ((hfw.trans hf).trans hf2) a2 c2 hm2
      replace hl1 := Lib.hid hl1
      clear hof hm2
      go_wp2_with fail
      refine hl1.out.mono ?_
      rintro e w3 ⟨a3, c3, rfl, hm3, hf3⟩
      rw [hone.out]
      have hfin := Lib.hid (show ∀ W, Fr w3 W → RelRet w [x :: xs] (.returned (.tuple #[.slice a3 1 c3, .int .i64 0])) W from fun W hW => ⟨a3, c3, rfl, hm3 W (Fx.of_fr hW), ((hfw.trans hf).trans hf2).trans (hf3.trans hW)⟩)
      clear hm3
      go_wp2_with fail
      go_ret2
      exact hfin.out _ ((Fr.refl _).alloc _)
end Go.Proofs.YtphjfalibnnohaaGreatDoor

/- schismalaw43: equal, same; the closures of SpellingGrows. -/
namespace Go.Proofs.YtphjfalibnnohaaGreatDoor
open Go.RowKit Go.Lib
attribute [local go_sem ↓] Go.wp_at_zero Go.wp_at_succ

set_option maxRecDepth 100000 in
set_option maxHeartbeats 1000000 in
theorem equal_any (x y : BX) (W : World) (hx : El W iv (some ⟨x.g, 0, none⟩) x.cs) (hy : El W iv (some ⟨y.g, 0, none⟩) y.cs) (hl : x.cs.length ≤ 1000000) (hl2 : y.cs.length ≤ 1000000) :
    Calls Tryz.prog 24 #[.agg #[.int .i64 x.i, .slice (some ⟨x.g, 0, none⟩) x.cs.length x.c], .agg #[.int .i64 y.i, .slice (some ⟨y.g, 0, none⟩) y.cs.length y.c]] W fun e W' => e = .returned (.bool (decide (stripX x = stripX y))) ∧ Fr W W' := by
  have heq := fun W' (hW' : Fr W W') => Equal_row x.cs y.cs (some ⟨x.g, 0, none⟩) (some ⟨y.g, 0, none⟩) x.c y.c W' (hx.fr hW') (hy.fr hW') (by omega) (by omega)
  have hfA : Fr W ((W.alloc (.cells #[.int .i64 x.i, .slice (some ⟨x.g, 0, none⟩) x.cs.length x.c] 42)).alloc (.cells #[.int .i64 y.i, .slice (some ⟨y.g, 0, none⟩) y.cs.length y.c] 42)) := ((Fr.refl W).alloc _).alloc _
  have hst : decide (stripX x = stripX y) = (decide (x.i = y.i) && decide (x.cs = y.cs)) := by
    unfold stripX
    by_cases h1 : x.i = y.i <;> by_cases h2 : x.cs = y.cs <;> simp [h1, h2]
  rw [hst]
  replace heq := Lib.hid (heq _ hfA)
  replace hfA := Lib.hid hfA
  generalize decide (x.cs = y.cs) = q at *
  generalize x.cs.length = xl at *
  generalize y.cs.length = yl at *
  generalize x.g = xg at *
  generalize y.g = yg at *
  generalize x.c = xc at *
  generalize y.c = yc at *
  clear hx hy hst
  by_cases h1 : x.i = y.i
  · have hd : decide (x.i = y.i) = true := decide_eq_true h1
    have hd2 : ((x.i : Int) == (y.i : Int)) = true := by rw [h1]; simp
    rw [hd]
    generalize x.i = i at *
    generalize y.i = j at *
    clear h1 hd
    go_enter Tryz.func24, Tryz.ntmps24
    go_wp2_with fail
    refine heq.out.mono ?_
    rintro e w2 ⟨rfl, hf2⟩
    go_wp2_with fail
    go_ret
    exact ⟨rfl, hfA.out.trans hf2⟩
  · have hd : decide (x.i = y.i) = false := decide_eq_false h1
    have hd2 : ((x.i : Int) == (y.i : Int)) = false := beq_false_of_ne (by omega)
    rw [hd]
    generalize x.i = i at *
    generalize y.i = j at *
    clear h1 hd
    go_enter Tryz.func24, Tryz.ntmps24
    go_wp2_with fail
    go_ret
    exact ⟨rfl, hfA.out⟩

/-- spellings in memory -/
def BXs (w : World) (a : Option Addr) (xs : List BX) : Prop := Prs w a (xs.map BX.enc2) ∧ ∀ x, x ∈ xs → El w iv (some ⟨x.g, 0, none⟩) x.cs
theorem BXs.fr {w w' : World} {a : Option Addr} {xs : List BX} (h : BXs w a xs) (k : Fr w w') : BXs w' a xs := ⟨h.1.fr k, fun x hx => (h.2 x hx).fr k⟩
theorem BXs.at {w : World} {a : Option Addr} {xs : List BX} (h : BXs w a xs) {i : Nat} (hi : i < xs.length) :
    ∃ b o x, a = some ⟨b, o, none⟩ ∧ b < w.heap.size ∧ xs[i]? = some x ∧ w.cell? ⟨b, o + i * 2, none⟩ = some (.int .i64 x.i) ∧ w.cell? ⟨b, o + i * 2 + 1, none⟩ = some (.slice (some ⟨x.g, 0, none⟩) x.cs.length x.c) ∧ El w iv (some ⟨x.g, 0, none⟩) x.cs := by
  obtain ⟨b, o, z, ha, hb, hz, hc, hc2⟩ := h.1.at (i := i) (by rw [List.length_map]; exact hi)
  rw [List.getElem?_map, List.getElem?_eq_getElem hi] at hz
  injection hz with hz
  subst hz
  exact ⟨b, o, xs[i], ha, hb, List.getElem?_eq_getElem hi, hc, hc2, h.2 _ (List.getElem_mem hi)⟩
theorem OwnSp.bxs {w : World} {base : Nat} {a : Option Addr} {c : Nat} {xs : List BX} (h : OwnSp w base a c xs) : BXs w a xs := by
  refine ⟨?_, fun x hx => (h.el x hx).2.2.2⟩
  rcases h.addr with ⟨rfl, rfl, rfl⟩ | ⟨g, rfl⟩
  · exact .inl rfl
  · exact h.cnt.1.prs

set_option maxRecDepth 100000 in
set_option maxHeartbeats 4000000 in
theorem EqualFunc_any (xs ys : List BX) (a b : Option Addr) (ca cb : Nat) (w : World) (hx : BXs w a xs) (hy : BXs w b ys) (hl : xs.length ≤ 1000000000) (_hl2 : ys.length ≤ 1000000000) (hcx : ∀ x, x ∈ xs → x.cs.length ≤ 1000000) (hcy : ∀ x, x ∈ ys → x.cs.length ≤ 1000000) :
    Calls Tryz.prog 43 #[.slice a xs.length ca, .slice b ys.length cb, .func (.func 24) #[] #[]] w fun e w' => e = .returned (.bool (decide (xs.map stripX = ys.map stripX))) ∧ Fr w w' := by
  have eg : ∀ args w, (callFunc 24 args).run Tryz.prog w = .ok (.enter 24 args) w := enters_of Tryz.func24 (by kernel_rfl) rfl
  by_cases hlen : xs.length = ys.length
  · have hne : ((xs.length : Int) != ys.length) = false := by rw [hlen]; simp
    obtain ⟨n, hn⟩ : ∃ n, n = xs.length := ⟨_, rfl⟩
    obtain ⟨m, hm⟩ : ∃ m, m = ys.length := ⟨_, rfl⟩
    rw [← hn, ← hm] at hne
    rw [← hn] at hl
    rw [← hn, ← hm]
    have hmn : m ≤ n ∧ n ≤ m := by omega
    obtain ⟨hmn1, hmn2⟩ := hmn
    replace hn := Lib.hid hn
    replace hm := Lib.hid hm
    replace hx := Lib.hid hx
    replace hy := Lib.hid hy
    replace hcx := Lib.hid hcx
    replace hcy := Lib.hid hcy
    replace hlen := Lib.hid hlen
    go_enter Tryz.func43, Tryz.ntmps43
    go_wp2_with fail
    go_loopg [17] n (fun k s17 wr => ∃ j : Nat, s17 = .int .i64 j ∧ j + k = n ∧ Fr w wr ∧ Hid ((xs.take j).map stripX = (ys.take j).map stripX))
    case atStart => exact ⟨0, rfl, by omega, Fr.refl _, rfl⟩
    case round =>
      obtain ⟨j, rfl, hjk, hf, hb⟩ := hrel
      by_cases hj : j < n
      · have hdJ : decide (j < n) = true := decide_eq_true hj
        obtain ⟨xb, xo, x, rfl, hxb, hxj, x1, x2, xe⟩ := (hx.out.fr hf).at (i := j) (by rw [← hn.out]; exact hj)
        obtain ⟨yb, yo, y, rfl, hyb, hyj, y1, y2, ye⟩ := (hy.out.fr hf).at (i := j) (by rw [← hm.out]; omega)
        have hcall := fun W (hW : Fr wr W) => equal_any x y W (xe.fr hW) (ye.fr hW) (hcx.out x (List.mem_of_getElem? hxj)) (hcy.out y (List.mem_of_getElem? hyj))
        have htx := Lib.hid (take_snoc hxj)
        have hty := Lib.hid (take_snoc hyj)
        have hyes : decide (stripX x = stripX y) = true → Hid ((xs.take (j + 1)).map stripX = (ys.take (j + 1)).map stripX) := fun h => by
          show _ = _
          rw [htx.out, hty.out, List.map_append, List.map_append, hb.out]
          simp [of_decide_eq_true h]
        have hno : decide (stripX x = stripX y) = false → Hid (decide (xs.map stripX = ys.map stripX) = false) := fun h => by
          refine decide_eq_false (fun e => of_decide_eq_false h ?_)
          have h1 : (xs.map stripX)[j]? = some (stripX x) := by rw [List.getElem?_map, hxj]; rfl
          rw [e, List.getElem?_map, hyj] at h1
          injection h1 with h1
          exact h1.symm
        generalize decide (stripX x = stripX y) = q at *
        generalize x.cs.length = xl at *
        generalize y.cs.length = yl at *
        generalize x.g = xg at *
        generalize y.g = yg at *
        generalize x.c = xc at *
        generalize y.c = yc at *
        generalize x.i = xi at *
        generalize y.i = yi at *
        have hA : Fr wr (wr.alloc (.cells #[.int .i64 xi, .slice (some ⟨xg, 0, none⟩) xl xc] 42)) := (Fr.refl wr).alloc _
        have hB : Fr wr ((wr.alloc (.cells #[.int .i64 xi, .slice (some ⟨xg, 0, none⟩) xl xc] 42)).alloc (.cells #[.int .i64 yi, .slice (some ⟨yg, 0, none⟩) yl yc] 42)) := hA.alloc _
        have v1 := hA.keep y1
        have v2 := hA.keep y2
        have hc2 := Lib.hid (hcall _ hB)
        replace hyes := Lib.hid hyes
        replace hno := Lib.hid hno
        replace hB := Lib.hid hB
        clear hcall hxj hyj xe ye htx hty hA
        have z1 : (j : Int) < (n : Int) := by omega
        have z3 : (j : Int) < (m : Int) := by omega
        have z0 : (0 : Int) ≤ (j : Int) := by omega
        go_wp2_with fail
        refine hc2.out.mono ?_
        rintro e w3 ⟨rfl, hf3⟩
        have hfw := (hf.trans hB.out).trans hf3
        cases q with
        | true =>
          have hy9 := hyes.out rfl
          go_wp2_with fail
          go_roundg (gk - 1)
          case measure => omega
          case rel => exact ⟨j + 1, by go_num, by omega, hfw, hy9⟩
        | false =>
          have hn9 := hno.out rfl
          go_wp2_with fail
          go_ret
          exact ⟨ret_bool hn9.out.symm, hfw⟩
      · obtain rfl : j = n := by omega
        have hdJ : decide (j < j) = false := decide_eq_false (by omega)
        have hfin := Lib.hid (show decide (xs.map stripX = ys.map stripX) = true from decide_eq_true (by
          have h := hb.out
          rw [List.take_of_length_le (by rw [← hn.out]; exact Nat.le_refl _), List.take_of_length_le (by rw [← hm.out]; omega)] at h
          exact h))
        go_wp2_with fail
        go_ret
        exact ⟨ret_bool hfin.out.symm, hf⟩
  · have hne : ((xs.length : Int) != ys.length) = true := by rw [bne_iff_ne]; omega
    have hfin := Lib.hid (show decide (xs.map stripX = ys.map stripX) = false from decide_eq_false (fun e => hlen (by have := congrArg List.length e; simpa using this)))
    clear hlen
    go_enter Tryz.func43, Tryz.ntmps43
    go_wp2_with fail
    go_ret
    exact ⟨ret_bool hfin.out.symm, Fr.refl _⟩

theorem same_any (xs ys : List BX) (a b : Option Addr) (ca cb : Nat) (w : World) (hx : BXs w a xs) (hy : BXs w b ys) (hl : xs.length ≤ 1000000000) (hl2 : ys.length ≤ 1000000000) (hcx : ∀ x, x ∈ xs → x.cs.length ≤ 1000000) (hcy : ∀ x, x ∈ ys → x.cs.length ≤ 1000000) :
    Calls Tryz.prog 16 #[.slice a xs.length ca, .slice b ys.length cb] w fun e w' => e = .returned (.bool (decide (xs.map stripX = ys.map stripX))) ∧ Fr w w' := by
  have h := EqualFunc_any xs ys a b ca cb w hx hy hl hl2 hcx hcy
  generalize decide (xs.map stripX = ys.map stripX) = q at *
  replace h := Lib.hid h
  clear hx hy
  go_enter Tryz.func16, Tryz.ntmps16
  go_wp2_with fail
  refine h.out.mono ?_
  rintro e w2 ⟨rfl, hf2⟩
  go_wp2_with fail
  go_ret
  exact ⟨rfl, hf2⟩

/-- the bound is not kept -/
def outB (k : Int) (c : Int) : Bool := decide (k < c) || decide (c < -k)
theorem Grows11_any (c k : Int) (p : Nat) (W : World) (hc : W.cell? ⟨p, 0, none⟩ = some (.int .i64 k)) (hk0 : 0 ≤ k) (hk : k ≤ 1000000) :
    Calls Tryz.prog 13 #[.int .i64 c, .pointer (some ⟨p, 0, none⟩)] W fun e W' => e = .returned (.bool (outB k c)) ∧ W = W' := by
  by_cases h1 : k < c
  · have hfin := Lib.hid (show outB k c = true by unfold outB; rw [decide_eq_true h1]; rfl)
    have d1 : decide (k < c) = true := decide_eq_true h1
    clear h1
    go_enter Tryz.func13, Tryz.ntmps13
    go_wp2_with fail
    go_ret
    exact ⟨ret_bool hfin.out.symm, rfl⟩
  · have d1 : decide (k < c) = false := decide_eq_false h1
    have hfin := Lib.hid (show outB k c = decide (c < -k) by unfold outB; rw [d1]; rfl)
    clear h1
    go_enter Tryz.func13, Tryz.ntmps13
    go_wp2_with fail
    go_ret
    exact ⟨ret_bool hfin.out.symm, rfl⟩
set_option maxRecDepth 100000 in
theorem Grows1_any (x : BX) (k : Int) (p : Nat) (W : World) (hc : W.cell? ⟨p, 0, none⟩ = some (.int .i64 k)) (hk0 : 0 ≤ k) (hk : k ≤ 1000000) (hx : El W iv (some ⟨x.g, 0, none⟩) x.cs) (hl : x.cs.length ≤ 1000000) :
    Calls Tryz.prog 11 #[.agg #[.int .i64 x.i, .slice (some ⟨x.g, 0, none⟩) x.cs.length x.c], .pointer (some ⟨p, 0, none⟩)] W fun e W' => e = .returned (.bool (x.cs.any (outB k))) ∧ Fr W W' := by
  have eg : ∀ args w, (callFunc 13 args).run Tryz.prog w = .ok (.enter 13 args) w := enters_of Tryz.func13 (by kernel_rfl) rfl
  have hA : Fr W (W.alloc (.cells #[.int .i64 x.i, .slice (some ⟨x.g, 0, none⟩) x.cs.length x.c] 42)) := (Fr.refl W).alloc _
  have hcf := ContainsFunc_row x.cs (some ⟨x.g, 0, none⟩) x.c 13 #[.pointer (some ⟨p, 0, none⟩)] (outB k) _ eg (hx.fr hA) (by omega) (fun c W' _ hW' => (Grows11_any c k p W' ((hA.trans hW').keep hc) hk0 hk).mono fun e w' h => ⟨h.1, Fr.of_eq h.2⟩)
  generalize x.cs.any (outB k) = q at *
  generalize x.cs.length = xl at *
  replace hcf := Lib.hid hcf
  replace hA := Lib.hid hA
  clear hx eg
  go_enter Tryz.func11, Tryz.ntmps11
  go_wp2_with fail
  refine hcf.out.mono ?_
  rintro e w2 ⟨rfl, hf2⟩
  go_wp2_with fail
  go_ret
  exact ⟨rfl, hA.out.trans hf2⟩
end Go.Proofs.YtphjfalibnnohaaGreatDoor

/- schismalaw43.known. -/
namespace Go.Proofs.YtphjfalibnnohaaGreatDoor
open Go.RowKit Go.Lib
attribute [local go_sem ↓] Go.wp_at_zero Go.wp_at_succ

def exN : List (ByteArray × List Int) := [(⟨#[65]⟩, [0]), (⟨#[66]⟩, [2])]
def exA : List (ByteArray × List Int) := [(⟨#[35]⟩, [1]), (⟨#[98]⟩, [-1])]
theorem dis_of {L : List (ByteArray × List Int)} (f : ByteArray × List Int → Nat) (hf : ∀ x y, x.1 = y.1 → f x = f y) (h : (L.map f).Nodup) : ∀ (i j : Nat) (x y : ByteArray × List Int), L[i]? = some x → L[j]? = some y → i < j → x.1 ≠ y.1 := fun i j x y hx hy hij e => by
  have e2 : (L.map f)[i]? = (L.map f)[j]? := by rw [List.getElem?_map, List.getElem?_map, hx, hy]; simp only [Option.map_some]; rw [hf x y e]
  have := (List.getElem?_inj (by rw [List.length_map]; exact (List.getElem?_eq_some_iff.1 hx).1) h).1 e2
  omega
theorem ex_ok : NotOkP 1 exN exA :=
  ⟨by decide, by decide, by decide, by decide, by decide, by decide, by decide, dis_of (fun x => (x.1.data[0]!).toNat) (fun x y e => by simp only [e]) (by decide)⟩
theorem ex_all : allR [[0], [2]] [[1], [-1]] [1] 1 = [(0, [0, -1]), (0, [1, 0]), (1, [-1, 0]), (1, [0, 1])] := (sortS_eq (by decide +kernel) (by decide +kernel)).symm
theorem ex_enh : (allR [[0], [2]] [[1], [-1]] [0] 1).filter (fun t => !decide (ordS (stI (0, [0, 0])) (stI t) = 0)) = [(0, [-1, -1]), (0, [1, 1]), (1, [-1, 1])] := by
  have e : allR [[0], [2]] [[1], [-1]] [0] 1 = [(0, [0, 0]), (0, [-1, -1]), (0, [1, 1]), (1, [-1, 1])] := (sortS_eq (by decide +kernel) (by decide +kernel)).symm
  rw [e]
  decide +kernel
theorem ex_ker : kerS 20 1 [[1], [-1]] = some [[1, 1]] := by decide +kernel

theorem El.two {W : World} {b : Nat} {x y : Int} {t : TypeId} (h : W.heap[b]? = some (.cells #[.int .i64 x, .int .i64 y] t (0, 0))) : El W iv (some ⟨b, 0, none⟩) [x, y] :=
  .inr ⟨b, 0, rfl, lt_of_heap h, fun i z hz => by
    match i, hz with
    | 0, hz => simp at hz; subst hz; rw [cells_of h]; rfl
    | 1, hz => simp at hz; subst hz; rw [cells_of h]; rfl
    | i + 2, hz => simp at hz⟩
theorem BXs.get {w : World} {b o : Nat} {xs : List BX} (h : BXs w (some ⟨b, o, none⟩) xs) {k i : Nat} {cs : List Int} (hk : (xs.map stripX)[k]? = some (i, cs)) :
    ∃ g c, w.cell? ⟨b, o + k * 2, none⟩ = some (.int .i64 i) ∧ w.cell? ⟨b, o + k * 2 + 1, none⟩ = some (.slice (some ⟨g, 0, none⟩) cs.length c) ∧ El w iv (some ⟨g, 0, none⟩) cs := by
  rw [List.getElem?_map] at hk
  cases e : xs[k]? with
  | none => rw [e] at hk; simp at hk
  | some x =>
    rw [e] at hk
    injection hk with hk
    injection hk with h1 h2
    subst h1; subst h2
    obtain ⟨b', o', y, ha, -, hy, c1, c2, c3⟩ := h.at (i := k) (List.getElem?_eq_some_iff.1 e).1
    injection ha with ha; injection ha with e1 e2
    subst e1; subst e2
    rw [e] at hy
    injection hy with hy
    subst hy
    exact ⟨x.g, x.c, c1, c2, c3⟩
theorem BXs.addr {w : World} {a : Option Addr} {xs : List BX} (h : BXs w a xs) (hx : 0 < xs.length) : ∃ b o, a = some ⟨b, o, none⟩ := by
  obtain ⟨b, o, x, ha, _⟩ := h.at (i := 0) hx
  exact ⟨b, o, ha⟩
/-- two elements equal to two that the call lays -/
theorem Eq2 (x y : Int) (a : Option Addr) (c : Nat) (W : World) (h : El W iv a [x, y]) : Calls Tryz.prog 15 #[.slice a 2 c, .slice (some ⟨W.heap.size, 0, none⟩) 2 2] (W.alloc (.cells #[.int .i64 x, .int .i64 y] 3)) fun e w' => e = .returned (.bool true) ∧ Fr W w' := by
  have := Equal_row [x, y] [x, y] a (some ⟨W.heap.size, 0, none⟩) c 2 (W.alloc (.cells #[.int .i64 x, .int .i64 y] 3)) (h.fr ((Fr.refl W).alloc _)) (El.two (heap_alloc_new W _)) (by simp) (by simp)
  refine this.mono fun e w' h => ⟨?_, ((Fr.refl W).alloc _).trans h.2⟩
  rw [h.1, decide_eq_true rfl]

set_option maxRecDepth 100000 in
set_option maxHeartbeats 4000000 in
theorem known_any (w : World) (hG : G w) : Calls Tryz.prog 7 #[] w fun e w' => e = .returned (.bool true) ∧ Fr w w' := by
  have hex := example_any w
  replace hG := Lib.hid hG
  replace hex := Lib.hid hex
  go_enter Tryz.func7, Tryz.ntmps7
  go_wp2_with fail
  refine hex.out.mono ?_
  rintro e w1 ⟨aN, aA, cN, cA, N, A, rfl, hn, hN, hA, hf1⟩
  clear hex
  have hok := ex_ok.ok hN hA
  have hNl : N.length = 2 := by have := congrArg List.length hN; simpa using this
  have hAl : A.length = 2 := by have := congrArg List.length hA; simpa using this
  have hNr : N.map Sy.row = [[0], [2]] := by rw [row_plain, hN]; rfl
  have hAr : A.map Sy.row = [[1], [-1]] := by rw [row_plain, hA]; rfl
  have hfb : Fr w1 (w1.alloc (.cells #[.slice aN N.length cN, .slice aA A.length cA] 30)) := (Fr.refl w1).alloc _
  have n1 := (new2a w1 (.slice aN N.length cN) (.slice aA A.length cA) 30).1
  have n2 := (new2b w1 (.slice aN N.length cN) (.slice aA A.length cA) 30).1
  have hall := fun W (hW : Fr w1 W) => All_any 1 aN aA cN cA N A [1] (some ⟨W.heap.size, 0, none⟩) 1 1 (W.alloc (.cells #[.int .i64 1] 3)) (hn.fr (hW.alloc _)) hok (by decide) (El.one (heap_alloc_new W _)) (by simp) (by intro; decide)
  rw [show allE9 1 N.length A.length [1] 1 = 0 by rw [hNl, hAl]; decide, allL_R, hNr, hAr, show (1 : Int).toNat = 1 by rfl, ex_all] at hall
  have hrel := fun W (hW : Fr w1 W) => Relations_one 1 20 aN aA cN cA N A 1 [1] W (hG.out.fr (hf1.trans hW)) (hn.fr hW) hok (by decide) (by omega) (by rw [hAr]; exact ex_ker) (by decide) (by rw [hAl]; rfl) (by decide)
  have henh := fun W (hW : Fr w1 W) => Enharmonic_any 1 aN aA cN cA N A ⟨0, [0, 0], some ⟨W.heap.size, 0, none⟩, 2⟩ 1 (W.alloc (.cells #[.int .i64 0, .int .i64 0] 3)) (hn.fr (hW.alloc _)) hok (by decide) (El.two (heap_alloc_new W _)) (by simp) (by intro; decide)
  have hel : enhL N A (0, [0, 0]) 1 = [(0, [-1, -1]), (0, [1, 1]), (1, [-1, 1])] := by
    unfold enhL
    rw [allL_R, sumS_R, hNr, hAr]
    exact ex_enh
  have hee : enhE N A 0 [0, 0] 1 = 0 := by
    unfold enhE
    rw [show spE N A 0 [0, 0] = 0 from spE_ok (i := 0) (by omega) (by rw [hAl]; rfl) (by decide) (by decide), hNl, hAl]; decide
  simp only [show (0 : Int).toNat = 0 from rfl, show (1 : Int).toNat = 1 from rfl, hel, hee] at henh
  simp only [List.length_cons, List.length_nil, Nat.zero_add, Nat.reduceAdd] at hall hrel henh
  generalize N.length = nN at *
  generalize A.length = nA at *
  replace hall := Lib.hid hall
  replace hrel := Lib.hid hrel
  replace henh := Lib.hid henh
  clear hn hN hA hok hNl hAl hNr hAr hel hee
  have h1 := hall.out _ hfb
  rw [show (w1.alloc (.cells #[.slice aN nN cN, .slice aA nA cA] 30)).heap.size = w1.heap.size + 1 by simp] at h1
  replace h1 := Lib.hid h1
  replace hfb := Lib.hid hfb
  replace n1 := Lib.hid n1
  replace n2 := Lib.hid n2
  clear hall
  go_wp2_with fail
  refine h1.out.mono ?_
  rintro e w2 ⟨hr, -, hf2⟩
  obtain ⟨al, cl, xs, rfl, hown, hxs⟩ := hr rfl
  have hl4 : xs.length = 4 := by have := congrArg List.length hxs; simpa using this
  have hbx := hown.bxs
  obtain ⟨lb, lo, rfl⟩ := hbx.addr (by omega)
  rw [hl4]
  have hf2' : Fr (w1.alloc (.cells #[.slice aN nN cN, .slice aA nA cA] 30)) w2 := ((Fr.refl _).alloc _).trans hf2
  have hf12 : Fr w1 w2 := hfb.out.trans hf2'
  have m1 := hf2'.keep n1.out
  have m2 := hf2'.keep n2.out
  replace hbx := Lib.hid hbx
  replace hxs := Lib.hid hxs
  clear hr hown h1 hl4 hf2 hf2' hfb n1 n2
  have h2 := Lib.hid (hrel.out w2 hf12)
  clear hrel
  go_wp2_with fail
  refine h2.out.mono ?_
  rintro e w3 ⟨am, cm, rfl, hm, hf3⟩
  have m3 := hf3.keep m1
  have m4 := hf3.keep m2
  replace hm := Lib.hid hm
  have h3 := Lib.hid (henh.out w3 (hf12.trans hf3))
  clear henh h2 m1 m2
  rw [show ([[(1 : Int), 1]] : List (List Int)).length = 1 from rfl]
  go_wp2_with fail
  refine h3.out.mono ?_
  rintro e w4 ⟨hr, -, hf4⟩
  obtain ⟨ae, ce, es, rfl, hpe, hee, hes⟩ := hr rfl
  have hl3 : es.length = 3 := by have := congrArg List.length hes; simpa using this
  have hbe : BXs w4 ae es := ⟨hpe, hee⟩
  obtain ⟨eb, eo, rfl⟩ := hbe.addr (by omega)
  rw [hl3]
  have hf34 : Fr w3 w4 := ((Fr.refl _).alloc _).trans hf4
  have hb4 := hbx.out.fr (hf3.trans hf34)
  obtain ⟨gA, kA, -, a1, aE⟩ := hb4.get (k := 0) (i := 0) (cs := [0, -1]) (by rw [hxs.out]; rfl)
  obtain ⟨gC, kC, c0, -, -⟩ := hb4.get (k := 2) (i := 1) (cs := [-1, 0]) (by rw [hxs.out]; rfl)
  obtain ⟨gD, kD, -, d1, dE⟩ := hb4.get (k := 3) (i := 1) (cs := [0, 1]) (by rw [hxs.out]; rfl)
  obtain ⟨gE, kE, e0, -, -⟩ := hbe.get (k := 2) (i := 1) (cs := [-1, 1]) (by rw [hes]; rfl)
  obtain ⟨mb, mo, ma, mc, rfl, mcell, mE⟩ := (hm.out.fr hf34).at (i := 0) (by decide)
  have hfw : Fr w w4 := hf1.trans ((hf12.trans hf3).trans hf34)
  rw [Nat.zero_mul, Nat.add_zero] at a1
  rw [Nat.add_zero] at mcell
  simp only [Nat.reduceMul, List.length_cons, List.length_nil, Nat.zero_add, Nat.reduceAdd] at a1 c0 d1 e0
  have mcell : w4.cell? ⟨mb, mo, none⟩ = some (.slice ma 2 mc) := mcell
  have mE : El w4 iv ma [1, 1] := mE
  have q1 := Lib.hid (Eq2 0 (-1) (some ⟨gA, 0, none⟩) kA w4 aE)
  replace aE := Lib.hid aE
  replace dE := Lib.hid dE
  replace mE := Lib.hid mE
  clear hr hpe hee hes hl3 hbe hf4 hb4 h3 hm hbx hxs hf3 hf12 hf1 m3 m4
  go_wp2_with fail
  refine q1.out.mono ?_
  rintro e w5 ⟨rfl, hf5⟩
  replace c0 := hf5.keep c0
  replace d1 := hf5.keep d1
  replace e0 := hf5.keep e0
  replace mcell := hf5.keep mcell
  have q2 := Lib.hid (Eq2 0 1 (some ⟨gD, 0, none⟩) kD w5 (dE.out.fr hf5))
  clear q1
  go_wp2_with fail
  refine q2.out.mono ?_
  rintro e w6 ⟨rfl, hf6⟩
  replace e0 := hf6.keep e0
  replace mcell := hf6.keep mcell
  have q3 := Lib.hid (Eq2 1 1 ma mc w6 (mE.out.fr (hf5.trans hf6)))
  clear q2
  go_wp2_with fail
  refine q3.out.mono ?_
  rintro e w7 ⟨rfl, hf7⟩
  replace e0 := hf7.keep e0
  go_wp2_with fail
  go_ret
  exact ⟨rfl, hfw.trans ((hf5.trans hf6).trans hf7)⟩
end Go.Proofs.YtphjfalibnnohaaGreatDoor

/- What schismalaw43.SpellingGrows calls: All, Read and DeleteFunc at a small notation. -/
namespace Go.Proofs.YtphjfalibnnohaaGreatDoor
open Go.RowKit Go.Lib
attribute [local go_sem ↓] Go.wp_at_zero Go.wp_at_succ

theorem BXs.fxlt {w0 W W' : World} {a : Option Addr} {xs : List BX} {g : Nat} (h : BXs w0 a xs) (hf : Fr w0 W) (k : Fx (· = g) W W') (hg : w0.heap.size ≤ g) : BXs W' a xs := by
  refine h.fr (((Fx.of_fr hf).trans k).toFr (fun j hj e => by have e : j = g := e; omega))

/-- DeleteFunc in a row of the call's own, the function reading what was there before -/
theorem DelGen (gF : Nat) (lb : Array Value) (p : BX → Bool) (a : Option Addr) (c : Nat) (K : List BX) (base : Nat) (w0 W : World) (eg : ∀ args w, (callFunc gF args).run Tryz.prog w = .ok (.enter gF args) w) (hown : OwnSp W base a c K) (hw0 : Fr w0 W) (hb0 : w0.heap.size ≤ base) (hK : K.length ≤ 1000000)
    (hcl : ∀ x, x ∈ K → ∀ W', Fr w0 W' → El W' iv (some ⟨x.g, 0, none⟩) x.cs → Calls Tryz.prog gF (#[.agg #[x.enc2.1, x.enc2.2]] ++ lb) W' fun e w' => e = .returned (.bool (p x)) ∧ Fr W' w') :
    Calls Tryz.prog 10 #[.slice a K.length c, .func (.func gF) #[] lb] W fun e W' => ∃ c' : Nat, ∃ K' : List BX, K' = keepL p K ∧ e = .returned (.slice a K'.length c') ∧ BXs W' a K' ∧ Fr w0 W' := by
  rcases hown.addr with ⟨rfl, rfl, rfl⟩ | ⟨g, rfl⟩
  · refine (DeleteFunc_nil gF lb W eg).mono ?_
    rintro e W' ⟨rfl, hf⟩
    exact ⟨0, [], rfl, rfl, ⟨.inl rfl, fun x hx => by simp at hx⟩, hw0.trans hf⟩
  · obtain ⟨hcnt, hcap, hg⟩ := hown.cnt
    have hfr : ∀ W', Fx (· = g) W W' → Fr w0 W' := fun W' hW' => ((Fx.of_fr hw0).trans hW').toFr (fun k hk e => by have e : k = g := e; omega)
    have hel : ∀ x, x ∈ K → ∀ W', Fx (· = g) W W' → El W' iv (some ⟨x.g, 0, none⟩) x.cs := fun x hx W' hW' => by
      obtain ⟨e1, e2, e3, e4⟩ := hown.el x hx
      exact e4.fx hW' (fun e => e3 (by rw [show x.g = g from e]; rfl))
    refine (DeleteFunc_spl BX.enc2 K g c gF lb p W eg hcnt (by omega) hcap (fun x => ⟨_, _, _, _, rfl⟩) (fun x hx W' hW' => hcl x hx W' (hfr W' hW') (hel x hx W' hW'))).mono ?_
    rintro e W' ⟨rfl, h1, h2⟩
    exact ⟨c, _, rfl, rfl, ⟨h1, fun x hx => hel x (List.mem_filter.1 hx).1 W' h2⟩, hfr W' h2⟩

theorem not_out (k : Nat) (c : Int) : (!outB k c) = decide (-(k : Int) ≤ c ∧ c ≤ k) := by
  unfold outB
  by_cases h1 : (k : Int) < c
  · rw [decide_eq_true h1, decide_eq_false (p := -(k : Int) ≤ c ∧ c ≤ k) (by omega)]; rfl
  · by_cases h2 : c < -(k : Int)
    · rw [decide_eq_true h2, decide_eq_false (p := -(k : Int) ≤ c ∧ c ≤ k) (by omega)]; simp
    · rw [decide_eq_false h1, decide_eq_false h2, decide_eq_true (by omega)]; rfl
theorem not_any_out (k : Nat) : ∀ l : List Int, (!l.any (outB k)) = inB k l
  | [] => rfl
  | c :: l => by
    have ih := not_any_out k l
    unfold inB at ih ⊢
    rw [List.any_cons, List.all_cons, Bool.not_or, ih, not_out]
theorem keep_out (k : Nat) (K : List BX) : (keepL (fun x => x.cs.any (outB k)) K).map stripX = (K.map stripX).filter fun s => inB k s.2 := by
  unfold keepL
  have e : (fun x : BX => !x.cs.any (outB k)) = (fun s : Nat × List Int => inB k s.2) ∘ stripX := by
    funext x
    exact not_any_out k x.cs
  rw [e, List.filter_map]

/-- the row that the law asks for -/
def rowG (two : Bool) (x y : Int) : List Int := x :: if two then [y] else []
theorem rowG_length (two : Bool) (x y : Int) : (rowG two x y).length = dMk two := by unfold rowG dMk; cases two <;> rfl

theorem bdE_small {mst : Int} (h : 0 ≤ mst ∧ mst ≤ 3) : ∀ (a tot : Nat), tot * 7 ^ a ≤ 20000 → bdE tot mst a = 0
  | 0, _, _ => rfl
  | a + 1, tot, ht => by
    obtain ⟨m, rfl⟩ : ∃ m : Nat, mst = m := ⟨mst.toNat, by omega⟩
    have e : ((tot : Int) * (2 * m + 1)) = ((tot * (2 * m + 1) : Nat) : Int) := by simp
    have h1 : tot * (2 * m + 1) ≤ tot * 7 := Nat.mul_le_mul_left _ (by omega)
    have h2 : tot * (2 * m + 1) * 7 ^ a ≤ tot * 7 ^ (a + 1) := by
      rw [Nat.pow_succ, Nat.mul_comm (7 ^ a) 7, ← Nat.mul_assoc]; exact Nat.mul_le_mul_right _ h1
    have h3 : tot * (2 * m + 1) ≤ tot * (2 * m + 1) * 7 ^ a := Nat.le_mul_of_pos_right _ (Nat.pow_pos (by decide))
    rw [bdE, if_neg (by omega), e, if_neg (by omega)]
    exact bdE_small h a _ (by omega)
theorem allE9_ok {d n a : Nat} {R : List Int} {mst : Int} (hn : n ≤ 4) (ha : a ≤ 3) (hR : R.length = d) (hd : d ≤ 64) (hf : ∀ x, x ∈ R → fitB x = true) (h : 0 ≤ mst ∧ mst ≤ 3) : allE9 d n a R mst = 0 := by
  have h1 : rowE R = 0 := rowE_ok (by omega) (by rw [List.any_eq_false]; intro x hx; rw [hf x hx]; simp)
  unfold allE9
  rw [if_neg (by simp [h1]), if_neg (by simp [hR])]
  unfold boundE
  rw [if_neg (by omega)]
  refine bdE_small h a n ?_
  have : 7 ^ a ≤ 7 ^ 3 := Nat.pow_le_pow_right (by decide) ha
  have h7 : (7 : Nat) ^ 3 = 343 := by decide
  rw [h7] at this
  have := Nat.mul_le_mul hn this
  omega

/-- All at a small notation: no error -/
theorem GAll {d : Nat} {aN aA : Option Addr} {cN cA : Nat} {N A : List Sy} {R : List Int} {w2 : World} (hn : NotIs w2 aN aA cA N A) (hok : NotOk d N A) (hNl : N.length ≤ 4) (hAl : A.length ≤ 3) (hd1 : 1 ≤ d ∧ d ≤ 2) (hRl : R.length = d) (hRf : ∀ z, z ∈ R → fitB z = true)
    (W : World) (mst : Int) (ra : Option Addr) (rc : Nat) (hW : Fr w2 W) (hm : 0 ≤ mst ∧ mst ≤ 3) (hr : El W iv ra R) :
    Calls Tryz.prog 9 #[.agg #[.slice aN N.length cN, .slice aA A.length cA], .slice ra d rc, .int .i64 mst] W fun e w' => ∃ a c xs, e = .returned (.tuple #[.slice a xs.length c, .int .i64 0]) ∧ OwnSp w' W.heap.size a c xs ∧ xs.map stripX = allR (N.map Sy.row) (A.map Sy.row) R mst.toNat ∧ Fr W w' := by
  have h := All_any d aN aA cN cA N A R ra rc mst W (hn.fr hW) hok hd1.1 hr (by omega) (fun _ => by omega)
  rw [allE9_ok hNl hAl hRl (by omega) hRf hm, allL_R, hRl] at h
  refine h.mono fun e w' h => ?_
  obtain ⟨h1, _, h3⟩ := h
  obtain ⟨a, c, xs, e1, e2, e3⟩ := h1 rfl
  exact ⟨a, c, xs, e1, e2, e3, h3⟩
/-- Read at what All found -/
theorem GRead {d : Nat} {aN aA : Option Addr} {cN cA : Nat} {N A : List Sy} {R : List Int} {w2 : World} (hn : NotIs w2 aN aA cA N A) (hok : NotOk d N A) (hAl : A.length ≤ 3) (hd1 : 1 ≤ d ∧ d ≤ 2) (hRl : R.length = d) (hRf : ∀ z, z ∈ R → fitB z = true)
    (m : Nat) (hm : m ≤ 4) (W : World) (x : BX) (hW : Fr w2 W) (hx : stripX x ∈ allR (N.map Sy.row) (A.map Sy.row) R m) (he : El W iv (some ⟨x.g, 0, none⟩) x.cs) :
    Calls Tryz.prog 14 #[.agg #[.slice aN N.length cN, .slice aA A.length cA], .agg #[.int .i64 x.i, .slice (some ⟨x.g, 0, none⟩) x.cs.length x.c]] W fun e w' => ∃ g c, e = .returned (.tuple #[.slice (some ⟨g, 0, none⟩) d c, .int .i64 0]) ∧ El w' iv (some ⟨g, 0, none⟩) R ∧ Fr W w' := by
  obtain ⟨i1, i2, i3, i4⟩ := allR_mem hx
  rw [List.length_map] at i1 i2
  have i1 : x.i < N.length := i1
  have i2 : x.cs.length = A.length := i2
  have i3 : ∀ c, c ∈ x.cs → -(m : Int) ≤ c ∧ c ≤ m := i3
  have i4 : sumS N A (x.i, x.cs) = R := by rw [sumS_R]; exact i4
  have hsp : spE N A x.i x.cs = 0 := spE_ok i1 i2 (by omega) (fun c hc => by have := i3 c hc; unfold fitB; exact decide_eq_true (by omega))
  have hrd : readE N A x.i x.cs = 0 := by
    unfold readE
    rw [if_pos hsp, show ((x.i : Int)).toNat = x.i from rfl, i4]
    exact rowE_ok (by omega) (by rw [List.any_eq_false]; intro z hz; rw [hRf z hz]; simp)
  have h := Read_any d aN aA cN cA N A ⟨x.i, x.cs, some ⟨x.g, 0, none⟩, x.c⟩ W (hn.fr hW) hok hd1.1 he (show x.cs.length ≤ 1000000000 by omega)
  rw [show readE N A (Sp.i ⟨x.i, x.cs, some ⟨x.g, 0, none⟩, x.c⟩) (Sp.cs ⟨x.i, x.cs, some ⟨x.g, 0, none⟩, x.c⟩) = 0 from hrd, show sumS N A ((Sp.i ⟨x.i, x.cs, some ⟨x.g, 0, none⟩, x.c⟩).toNat, (Sp.cs ⟨x.i, x.cs, some ⟨x.g, 0, none⟩, x.c⟩)) = R from i4] at h
  refine h.mono fun e w' h => ?_
  obtain ⟨h1, _, h3⟩ := h
  obtain ⟨g, c, e1, _, e2⟩ := h1 rfl
  rw [hRl] at e1
  exact ⟨g, c, e1, e2, h3⟩
theorem enters_grows1 : ∀ args w, (callFunc 11 args).run Tryz.prog w = .ok (.enter 11 args) w := enters_of Tryz.func11 (by kernel_rfl) rfl
/-- DeleteFunc of what is beyond the bound -/
theorem GDel {Nr Ar : List (List Int)} {R : List Int} (hNl : Nr.length ≤ 4) (hAl : Ar.length ≤ 3) (m k : Nat) (hm : m ≤ 4) (hk : k ≤ 4) (w0 W : World) (a : Option Addr) (c base p : Nat) (K : List BX) (hK : K.map stripX = allR Nr Ar R m) (hown : OwnSp W base a c K) (hw0 : Fr w0 W) (hb0 : w0.heap.size ≤ base) (hc : w0.cell? ⟨p, 0, none⟩ = some (.int .i64 k)) :
    Calls Tryz.prog 10 #[.slice a K.length c, .func (.func 11) #[] #[.pointer (some ⟨p, 0, none⟩)]] W fun e W' => ∃ c' : Nat, ∃ K' : List BX, e = .returned (.slice a K'.length c') ∧ K'.map stripX = (allR Nr Ar R m).filter (fun s => inB k s.2) ∧ BXs W' a K' ∧ Fr w0 W' := by
  have hsz : K.length ≤ 1000000 := by
    have h1 := allR_size Nr Ar R m
    rw [← hK, List.length_map] at h1
    have h2 : (2 * m + 1) ^ Ar.length ≤ 9 ^ 3 := Nat.le_trans (Nat.pow_le_pow_left (by omega) _) (Nat.pow_le_pow_right (by decide) hAl)
    have h3 := Nat.mul_le_mul hNl h2
    have h4 : (9 : Nat) ^ 3 = 729 := by decide
    omega
  have hl : ∀ x, x ∈ K → x.cs.length ≤ 1000000 := fun x hx => by
    have h1 : stripX x ∈ allR Nr Ar R m := by rw [← hK]; exact List.mem_map_of_mem hx
    have h2 : x.cs.length = Ar.length := (allR_mem h1).2.1
    omega
  refine (DelGen 11 #[.pointer (some ⟨p, 0, none⟩)] (fun x => x.cs.any (outB k)) a c K base w0 W enters_grows1 hown hw0 hb0 hsz (fun x hx W' hW' he => Grows1_any x k p W' (hW'.keep hc) (by omega) (by omega) he (hl x hx))).mono ?_
  rintro e W' ⟨c', K', rfl, rfl, h1, h2⟩
  exact ⟨c', _, rfl, by rw [keep_out, hK], h1, h2⟩
end Go.Proofs.YtphjfalibnnohaaGreatDoor
