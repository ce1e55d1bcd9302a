/- row.CheckAll; lattice: check, longOf, longsOf, short. -/
import Derived.Test.YtphjfalibnnohaaGreatDoorKernel
import Derived.OwnWalk
namespace Go.Proofs.YtphjfalibnnohaaGreatDoor
open Go.RowKit Go.Lib
attribute [local go_sem ↓] Go.wp_at_zero Go.wp_at_succ

/-- the first error of rows of one length -/
def allE (n : Int) : List (List Int) → Int
  | [] => 0
  | r :: l => if rowE r ≠ 0 then rowE r else if (r.length : Int) ≠ n then 5 else allE n l

set_option maxHeartbeats 4000000 in
theorem CheckAll_ok (m : List (List Int)) (a : Option Addr) (cap n : Nat) (w : World) (hm : MatIs w a m) (hr : Rect n m) (hl : m.length ≤ 1000000) (he : ∀ r, r ∈ m → rowE r = 0) (hn : n ≤ 1000000) :
    Calls Tryz.prog 127 #[.slice a m.length cap, .int .i64 n] w fun e w' => e = .returned (.int .i64 0) ∧ Fr w w' := by
  replace hm := Lib.hid hm
  replace hr := Lib.hid hr
  replace he := Lib.hid he
  go_enter Tryz.func127, Tryz.ntmps127
  go_wp2_with fail
  go_loopg [10] m.length (fun k s10 wr => ∃ j : Nat, s10 = .int .i64 j ∧ j + k = m.length ∧ Fr w wr)
  case atStart => exact ⟨0, rfl, by omega, Fr.refl _⟩
  case round =>
    obtain ⟨j, rfl, hjk, hf⟩ := hrel
    by_cases hlt : j < m.length
    · obtain ⟨b, o, a', c', rfl, hc, hel⟩ := (hm.out.fr hf).at hlt
      have hck := Check_row m[j] a' c' wr hel (by rw [hr.out.row hlt]; omega)
      rw [he.out _ (List.getElem_mem hlt)] at hck
      rw [hr.out.row hlt] at hc hck
      clear hel
      have z0 : (0 : Int) ≤ (j : Int) := Int.natCast_nonneg _
      have z1 : (j : Int) < (m.length : Int) := by omega
      go_wp2_with fail
      refine hck.mono ?_
      clear hck
      rintro e w2 ⟨rfl, hf2⟩
      go_wp2_with fail
      go_roundg (gk - 1)
      case measure => omega
      case rel => exact ⟨j + 1, by go_num, by omega, hf.trans hf2⟩
    · have hd : decide (j < m.length) = false := decide_eq_false hlt
      go_wp2_with fail
      go_ret
      exact ⟨rfl, hf⟩

theorem latCheck_ok (m : List (List Int)) (a : Option Addr) (cap n : Nat) (w : World) (hm : MatIs w a m) (hr : Rect n m) (hl : m.length ≤ 12) (he : ∀ r, r ∈ m → rowE r = 0) (hn : n ≤ 12) :
    Calls Tryz.prog 94 #[.int .i64 n, .slice a m.length cap] w fun e w' => e = .returned (.int .i64 0) ∧ Fr w w' := by
  have hc := CheckAll_ok m a cap n w hm hr (by omega) he (by omega)
  clear hm he
  have d1 : decide ((n : Int) < 0) = false := decide_eq_false (by omega)
  go_enter Tryz.func94, Tryz.ntmps94
  go_wp2_with fail
  refine hc.mono ?_
  clear hc
  rintro e w2 ⟨rfl, hf2⟩
  go_wp2_with fail
  go_ret
  exact ⟨rfl, hf2⟩

def RowRet (w : World) (xs : List Int) (e : Ending) (w' : World) : Prop := ∃ g c, e = .returned (.slice (some ⟨g, 0, none⟩) xs.length c) ∧ Fr w w' ∧ w'.ownsRow w.heap.size 65 1 (.slice (some ⟨g, 0, none⟩) xs.length c) xs.length (xs.map sv)

set_option maxRecDepth 100000 in
set_option maxHeartbeats 4000000 in
theorem longOf_any (xs : List Int) (a : Option Addr) (cap : Nat) (w : World) (hG : G w) (hx : El w iv a xs) (hl : xs.length ≤ 1000000) (hb : ∀ x, x ∈ xs → Sm x) :
    Calls Tryz.prog 128 #[.slice a xs.length cap] w (RowRet w xs) := by
  obtain ⟨i0, hi, hz0, hz1, hz2⟩ := info_parts info65
  obtain ⟨n, hn⟩ : ∃ n, n = xs.length := ⟨_, rfl⟩
  rw [← hn] at hl
  replace hn := Lib.hid hn
  replace hx := Lib.hid hx
  replace hb := Lib.hid hb
  replace hG := Lib.hid hG
  go_enter Tryz.func128, Tryz.ntmps128
  rw [← hn.out]
  go_wp2_with (at_make; refine wpList_make_own _ rfl _ _ 177 rfl w.heap.size 65 i0 _ 1 Tryz.underlying177 hi hz0 hz1 _ _ _ n (by rfl) (by rfl) (by omega) (by rw [hz2]; omega) (by unfold maxLen; omega) (Nat.le_refl _) ?_; intro w2 hown2 hgr2)
  have hf2 : Fr w w2 := (Fr.refl w).grown hgr2 (fun k e => by cases e)
  replace hown2 := Lib.hid hown2
  clear hgr2
  go_loopg [3, 11] n (fun k s3 s11 wr => ∃ t : Nat, s11 = .int .i64 t ∧ t + k = n ∧ Fr w wr ∧ wr.ownsRow w.heap.size 65 1 s3 t ((xs.take t).map sv) ∧ s3 ≠ .slice none 0 0)
  case atStart => exact ⟨0, rfl, by omega, hf2, by simpa using hown2.out, by simp⟩
  case round =>
    obtain ⟨t, rfl, htk, hf, hown, hnn⟩ := hrel
    by_cases ht : t < n
    · obtain ⟨b2, o2, x, rfl, hbl2, hxt, hcell2⟩ := (hx.out.fr hf).at (i := t) (by rw [← hn.out]; exact ht)
      have hGr := hG.out.fr hf
      have hsx := hb.out x (List.mem_of_getElem? hxt)
      unfold Sm at hsx
      have hsn2 := Lib.hid (take_snoc hxt)
      replace hxt := Lib.hid hxt
      go_wp2_with fail
      refine (Of_any _ (by omega) (by omega) _ hGr).mono ?_
      rintro e w3 ⟨rfl, hf3⟩
      go_wp2_with (at_builtin; refine wpList_append_lies _ rfl _ _ 177 (by rfl) _ 65 _ _ 1 16 Tryz.underlying177 hi hz0 hz1 hz2 rfl (by decide) _ t _ (by rfl) (World.ownsRow.alloc (ownsRow_fr hown hf3) _) ⟨w3.heap.size, 0, none⟩ 1 1 [sv x] (by rfl) rfl (cell_one_newN _ _ _ _ (by simp)) (by simp [Value.oneCell']) (by decide) (by unfold maxLen; omega) (by omega) (by have := (hf.trans hf3).size; simp; omega) (w3.heap.size + 1) (by simp) ?_; intro gA capA wA hownA hgrowA hatA hltA)
      go_wp2_with fail
      go_roundg (gk - 1)
      case measure => omega
      case rel => exact ⟨t + 1, by go_num, by omega, ((hf.trans hf3).alloc _).grown hgrowA (fun k e => (hown.lt k e).1), by rw [hsn2.out, List.map_append]; exact hownA, by simp⟩
    · have hd : decide (t < n) = false := decide_eq_false ht
      obtain rfl : t = n := by omega
      obtain ⟨gb7, cp7, rfl⟩ := ownsRow_nn hown hnn
      rw [List.take_of_length_le (by rw [← hn.out]; omega)] at hown
      clear hnn
      go_wp2_with fail
      go_ret
      exact ⟨gb7, cp7, by rw [← hn.out]; rfl, hf, by rw [← hn.out]; exact hown⟩

theorem infoLong : (Tryz.prog.info? 177).map (fun i => (i.zero, i.size, i.bytes)) = some (some (.slice none 0 0), 1, 24) := by kernel_rfl

set_option maxHeartbeats 4000000 in
theorem longsOf_any (m : List (List Int)) (a : Option Addr) (cap : Nat) (w : World) (hG : G w) (hm : MatIs w a m) (hr : ∀ r, r ∈ m → r.length ≤ 1000000) (hl : m.length ≤ 1000000) (hb : ∀ r, r ∈ m → ∀ x, x ∈ r → Sm x) :
    Calls Tryz.prog 95 #[.slice a m.length cap] w (GridRet w 177 m) := by
  have hgn := gN_le hG
  obtain ⟨i1, ji, jz0, jz1, jz2⟩ := info_parts infoLong
  replace hm := Lib.hid hm
  replace hr := Lib.hid hr
  replace hb := Lib.hid hb
  replace hG := Lib.hid hG
  go_enter Tryz.func95, Tryz.ntmps95
  go_wp2_with fail
  go_loopg [3, 8] m.length (fun k s3 s8 wr => ∃ (j : Nat) (hs : List (Nat × Nat × Nat)), s8 = .int .i64 j ∧ j + k = m.length ∧ Fr w wr ∧ GG wr w.heap.size 177 s3 hs (m.take j) ∧ Hid (∀ h, h ∈ hs → w.heap.size ≤ h.1))
  case atStart => exact ⟨0, [], rfl, by omega, Fr.refl _, GG.nil _ _ _ hgn, fun h hm => by simp at hm⟩
  case round =>
    obtain ⟨j, hs, rfl, hjk, hf, hgg, hnew⟩ := hrel
    by_cases hlt : j < m.length
    · obtain ⟨b, o, a', c', rfl, hc, hel⟩ := (hm.out.fr hf).at hlt
      have hsn := take_snoc (List.getElem?_eq_getElem hlt)
      have hrj := hr.out _ (List.getElem_mem hlt)
      have hlong := longOf_any m[j] a' c' wr (hG.out.fr hf) hel hrj (hb.out _ (List.getElem_mem hlt))
      have hgl : (m.take j).length = j := by rw [List.length_take]; omega
      generalize m[j] = row at *
      obtain ⟨n, hn⟩ : ∃ n, n = row.length := ⟨_, rfl⟩
      rw [← hn] at hc hlong
      replace hn := Lib.hid hn
      replace hsn := Lib.hid hsn
      replace hgl := Lib.hid hgl
      replace hgg := Lib.hid hgg
      clear hel
      go_wp2_with fail
      refine hlong.mono ?_
      clear hlong
      rintro e w2 ⟨g, c, rfl, hf2, hown2⟩
      obtain ⟨hO, -, -, hgb, hcp⟩ := ownsRow_own (Nat.le_trans hgn hf.size) hown2
      have hgg2 := hgg.out.fr hf2
      have hne : u3.ownBlock ≠ some g := fun e => by have h9 := (hgg.out.own.lt g e).2; omega
      have hne2 : ∀ h', h' ∈ hs → h'.1 ≠ g := fun h' hm e2 => by have h9 := hgg.out.lt h' hm; omega
      have hown3 := hgg2.own
      rw [hgl.out] at hown3
      rw [← hn.out]
      replace hgg2 := Lib.hid hgg2
      replace hown2 := Lib.hid hown2
      go_wp2_with (at_builtin; refine wpList_append_lies _ rfl _ _ 142 (by rfl) _ 177 _ _ 1 24 Tryz.underlying142 ji jz0 jz1 jz2 rfl (by decide) _ j _ (by rfl) (World.ownsRow.alloc hown3 _) ⟨w2.heap.size, 0, none⟩ 1 1 [.slice (some ⟨g, 0, none⟩) n c] (by rfl) rfl (cell_one_newN _ _ _ _ (by simp)) (by simp [Value.oneCell']) (by decide) (by unfold maxLen; omega) (by omega) (by have := (hf.trans hf2).size; simp; omega) (w2.heap.size + 1) (by simp) ?_; intro gA capA wA hownA hgrowA hatA hltA)
      have hpush := (hgg2.out.fr ((Fr.refl _).alloc _)).pushN (hd := (g, 0, c)) (hO.fr ((Fr.refl _).alloc _)) hne2 hne hgl.out (by unfold hdr; rw [← hn.out]) hownA hgrowA (hatA.imp id (fun e => by rw [e]; simp))
      rw [← hsn.out] at hpush
      have hfrA : Fr w wA := (((hf.trans hf2).alloc _)).grown hgrowA (fun k e => (hgg2.out.own.lt k e).1)
      go_roundg (gk - 1)
      case measure => omega
      case rel => exact ⟨j + 1, _, by go_num, by omega, hfrA, hpush, fun h hm => by rcases List.mem_append.1 hm with h1 | h1; exact hnew.out h h1; (simp at h1; subst h1; exact Nat.le_trans hf.size hgb)⟩
    · have hd : decide (j < m.length) = false := decide_eq_false hlt
      have hjm : m.take j = m := List.take_of_length_le (by omega)
      rw [hjm] at hgg
      replace hjm := Lib.hid hjm
      go_wp2_with fail
      go_ret
      exact ⟨_, hs, rfl, hgg, hnew, hf⟩

def RowRetI (w : World) (xs : List Int) (e : Ending) (w' : World) : Prop := ∃ g c, e = .returned (.tuple #[.slice (some ⟨g, 0, none⟩) xs.length c, .int .i64 0]) ∧ Fr w w' ∧ w'.ownsRow w.heap.size 3 1 (.slice (some ⟨g, 0, none⟩) xs.length c) xs.length (xs.map iv)

set_option maxRecDepth 100000 in
set_option maxHeartbeats 4000000 in
theorem shortRow_any (xs : List Int) (b o c : Nat) (w : World) (hG : G w) (hx : Own w b o xs) (hl : xs.length ≤ 1000000) (hb : ∀ x, x ∈ xs → fitB x = true) :
    Calls Tryz.prog 135 #[.slice (some ⟨b, o, none⟩) xs.length c] w (RowRetI w xs) := by
  obtain ⟨i0, hi, hz0, hz1, hz2⟩ := info_parts infoInt
  obtain ⟨n, hn⟩ : ∃ n, n = xs.length := ⟨_, rfl⟩
  rw [← hn] at hl
  replace hn := Lib.hid hn
  replace hx := Lib.hid hx
  replace hb := Lib.hid hb
  replace hG := Lib.hid hG
  go_enter Tryz.func135, Tryz.ntmps135
  rw [← hn.out]
  go_wp2_with (at_make; refine wpList_make_own _ rfl _ _ 33 rfl w.heap.size 3 i0 _ 1 Tryz.underlying33 hi hz0 hz1 _ _ _ n (by rfl) (by rfl) (by omega) (by rw [hz2]; omega) (by unfold maxLen; omega) (Nat.le_refl _) ?_; intro w2 hown2 hgr2)
  have hf2 : Fr w w2 := (Fr.refl w).grown hgr2 (fun k e => by cases e)
  replace hown2 := Lib.hid hown2
  clear hgr2
  go_loopg [4, 14] n (fun k s4 s14 wr => ∃ t : Nat, s14 = .int .i64 t ∧ t + k = n ∧ Fr w wr ∧ wr.ownsRow w.heap.size 3 1 s4 t ((xs.take t).map iv) ∧ s4 ≠ .slice none 0 0)
  case atStart => exact ⟨0, rfl, by omega, hf2, by simpa using hown2.out, by simp⟩
  case round =>
    obtain ⟨t, rfl, htk, hf, hown, hnn⟩ := hrel
    by_cases ht : t < n
    · obtain ⟨b2, o2, x, hae, hbl2, hxt, hcell2⟩ := (hx.out.el.fr hf).at (i := t) (by rw [← hn.out]; exact ht)
      injection hae with hae; injection hae with hb2 ho2
      subst hb2; subst ho2
      have hfx := hb.out x (List.mem_of_getElem? hxt)
      unfold fitB at hfx
      have hfx := of_decide_eq_true hfx
      obtain ⟨x1, x2⟩ := hfx
      have hd1 : decide ((1000000000 : Int) < x) = false := decide_eq_false (by omega)
      have hd2 : decide (x < -1000000000) = false := decide_eq_false (by omega)
      have hsn2 := Lib.hid (take_snoc hxt)
      replace hxt := Lib.hid hxt
      go_wp2_with fail
      refine (Small_ok x (by omega) (by omega) _).mono ?_
      rintro e w3 ⟨rfl, hf3⟩
      go_wp2_with (at_builtin; refine wpList_append_lies _ rfl _ _ 33 (by rfl) _ 3 _ _ 1 8 Tryz.underlying33 hi hz0 hz1 hz2 rfl (by decide) _ t _ (by rfl) (World.ownsRow.alloc (ownsRow_fr hown hf3) _) ⟨w3.heap.size, 0, none⟩ 1 1 [iv x] (by rfl) rfl (cell_one_newN _ _ _ _ (by simp)) (by simp [Value.oneCell']) (by decide) (by unfold maxLen; omega) (by omega) (by have := (hf.trans hf3).size; simp; omega) (w3.heap.size + 1) (by simp) ?_; intro gA capA wA hownA hgrowA hatA hltA)
      go_wp2_with fail
      go_roundg (gk - 1)
      case measure => omega
      case rel => exact ⟨t + 1, by go_num, by omega, ((hf.trans hf3).alloc _).grown hgrowA (fun k e => (hown.lt k e).1), by rw [hsn2.out, List.map_append]; exact hownA, by simp⟩
    · have hd : decide (t < n) = false := decide_eq_false ht
      obtain rfl : t = n := by omega
      obtain ⟨gb7, cp7, rfl⟩ := ownsRow_nn hown hnn
      rw [List.take_of_length_le (by rw [← hn.out]; omega)] at hown
      clear hnn
      go_wp2_with fail
      go_ret2
      exact ⟨gb7, cp7, by rw [← hn.out]; rfl, hf, by rw [← hn.out]; exact hown⟩
end Go.Proofs.YtphjfalibnnohaaGreatDoor
