/- smith.big, unit, wide, kernel, small, Kernel; table.Check. -/
import Derived.Test.YtphjfalibnnohaaGreatDoorGG
import Derived.Maps.AppendAt
namespace Go.Proofs.YtphjfalibnnohaaGreatDoor
open Go.RowKit Go.Lib
attribute [local go_sem ↓] Go.wp_at_zero Go.wp_at_succ

theorem info65 : (Tryz.prog.info? 65).map (fun i => (i.zero, i.size, i.bytes)) = some (some (.string ⟨#[]⟩), 1, 16) := by kernel_rfl
theorem info56 : (Tryz.prog.info? 56).map (fun i => (i.zero, i.size, i.bytes)) = some (some (.slice none 0 0), 1, 24) := by kernel_rfl

/-- a matrix of ints that came in -/
def MatIs (w : World) (a : Option Addr) (m : List (List Int)) : Prop :=
  m = [] ∨ ∃ b o, a = some ⟨b, o, none⟩ ∧ b < w.heap.size ∧ ∀ (i : Nat) (xs : List Int), m[i]? = some xs → ∃ a' c', w.cell? ⟨b, o + i, none⟩ = some (.slice a' xs.length c') ∧ El w iv a' xs
theorem MatIs.fr {w w' : World} {a : Option Addr} {m : List (List Int)} (h : MatIs w a m) (k : Fr w w') : MatIs w' a m := by
  rcases h with h | ⟨b, o, ha, hb, hc⟩
  · exact .inl h
  · refine .inr ⟨b, o, ha, Nat.lt_of_lt_of_le hb k.size, fun i xs hx => ?_⟩
    obtain ⟨a', c', h1, h2⟩ := hc i xs hx
    exact ⟨a', c', k.keep h1, h2.fr k⟩
theorem MatIs.at {w : World} {a : Option Addr} {m : List (List Int)} (h : MatIs w a m) {i : Nat} (hi : i < m.length) :
    ∃ b o a' c', a = some ⟨b, o, none⟩ ∧ w.cell? ⟨b, o + i, none⟩ = some (.slice a' (m[i]).length c') ∧ El w iv a' m[i] := by
  rcases h with h | ⟨b, o, ha, hb, hc⟩
  · subst h; simp at hi
  · obtain ⟨a', c', h1, h2⟩ := hc i _ (List.getElem?_eq_getElem hi)
    exact ⟨b, o, a', c', ha, h1, h2⟩

theorem take_snoc {α : Type} {xs : List α} {k : Nat} {x : α} (h : xs[k]? = some x) : xs.take (k + 1) = xs.take k ++ [x] := by
  rw [List.take_add_one, h]; rfl

def GridRet (w : World) (E : TypeId) (m : List (List Int)) (e : Ending) (w' : World) : Prop := ∃ v hs, e = .returned v ∧ GG w' w.heap.size E v hs m ∧ Hid (∀ h, h ∈ hs → w.heap.size ≤ h.1) ∧ Fr w w'

def GridRet0 (w : World) (E : TypeId) (m : List (List Int)) (e : Ending) (w' : World) : Prop := ∃ v hs, e = .returned v ∧ GG w' w.heap.size E v hs m ∧ Rows0 w' hs m ∧ Hid (∀ h, h ∈ hs → w.heap.size ≤ h.1) ∧ Fr w w'

set_option maxHeartbeats 2000000 in
theorem big_any (m : List (List Int)) (a : Option Addr) (cap n : Nat) (w : World) (hG : G w) (hm : MatIs w a m) (hr : Rect n m) (hn : 1 ≤ n) (hn2 : n ≤ 1000000) (hl : m.length ≤ 1000000) (hb : ∀ r, r ∈ m → ∀ x, x ∈ r → Sm x) :
    Calls Tryz.prog 124 #[.slice a m.length cap] w (GridRet0 w 56 m) := by
  have hG1 := Lib.hid hG
  have hm1 := Lib.hid hm
  have hr1 := Lib.hid hr
  have hb1 := Lib.hid hb
  have hgn := gN_le hG
  obtain ⟨i0, hi, hz0, hz1, hz2⟩ := info_parts info65
  obtain ⟨i1, ji, jz0, jz1, jz2⟩ := info_parts info56
  clear hG hm hr hb
  go_enter Tryz.func124, Tryz.ntmps124
  go_wp2_with fail
  go_loopg [3, 11] m.length (fun k s3 s11 wr => ∃ (j : Nat) (hs : List (Nat × Nat × Nat)), s11 = .int .i64 j ∧ j + k = m.length ∧ Fr w wr ∧ GG wr w.heap.size 56 s3 hs (m.take j) ∧ Rows0 wr hs (m.take j) ∧ Hid (∀ h, h ∈ hs → w.heap.size ≤ h.1))
  case atStart => exact ⟨0, [], rfl, by omega, Fr.refl _, GG.nil _ _ _ hgn, Rows0.nil _, fun h hm => by simp at hm⟩
  case round =>
    obtain ⟨j, hs, rfl, hjk, hf, hgg, hrw, hnew⟩ := hrel
    by_cases hlt : j < m.length
    · obtain ⟨b, o, a', c', rfl, hc, hel⟩ := (hm1.out.fr hf).at hlt
      have hrj := hr1.out.row hlt
      rw [hrj] at hc
      have hgl : (m.take j).length = j := by rw [List.length_take]; omega
      have hsn := take_snoc (List.getElem?_eq_getElem hlt)
      have hbj := hb1.out _ (List.getElem_mem hlt)
      generalize m[j] = row at *
      replace hrj := Lib.hid hrj
      replace hgl := Lib.hid hgl
      replace hsn := Lib.hid hsn
      replace hbj := Lib.hid hbj
      obtain ⟨wo, rfl⟩ : ∃ wo : World, wo = wr := ⟨_, rfl⟩
      obtain ⟨ko, rfl⟩ : ∃ ko : Nat, ko = gk := ⟨_, rfl⟩
      go_wp2_with fail
      go_loopg [6, 17] n (fun k s6 s17 wr2 => ∃ t : Nat, s17 = .int .i64 t ∧ t + k = n ∧ Fr wo wr2 ∧ wr2.ownsRow wo.heap.size 65 1 s6 t ((row.take t).map sv))
      case atStart => exact ⟨0, rfl, by omega, Fr.refl _, World.ownsRow_nil _ _ _ _⟩
      case round =>
        obtain ⟨t, rfl, htk, hf2, hown⟩ := hrel
        by_cases ht : t < n
        · obtain ⟨b2, o2, x, rfl, hbl2, hxt, hcell2⟩ := (hel.fr hf2).at (i := t) (by rw [hrj.out]; exact ht)
          have hGr := (hG1.out.fr hf).fr hf2
          have hsx := hbj.out x (List.mem_of_getElem? hxt)
          unfold Sm at hsx
          have hsn2 := Lib.hid (take_snoc hxt)
          replace hxt := Lib.hid hxt
          go_wp2_with fail
          refine (Of_any _ (by omega) (by omega) _ hGr).mono ?_
          rintro e w2 ⟨rfl, hf3⟩
          go_wp2_with (at_builtin; refine wpList_append_lies _ rfl _ _ 56 (by rfl) _ 65 _ _ 1 16 Tryz.underlying56 hi hz0 hz1 hz2 rfl (by decide) _ t _ (by rfl) (World.ownsRow.alloc (ownsRow_fr hown hf3) _) ⟨w2.heap.size, 0, none⟩ 1 1 [sv x] (by rfl) rfl (cell_one_newN _ _ _ _ (by simp)) (by simp [Value.oneCell']) (by decide) (by unfold maxLen; omega) (by omega) (by have := (hf2.trans hf3).size; simp; omega) (w2.heap.size + 1) (by simp) ?_; intro gA capA wA hownA hgrowA hatA hltA)
          go_wp2_with fail
          go_roundg (gk - 1)
          case measure => omega
          case rel => exact ⟨t + 1, by go_num, by omega, ((hf2.trans hf3).alloc _).grown hgrowA (fun k e => (hown.lt k e).1), by rw [hsn2.out, List.map_append]; exact hownA⟩
        · have hd : decide (t < n) = false := decide_eq_false ht
          obtain rfl : t = n := by omega
          obtain ⟨gb, cp, rfl⟩ := ownsRow_pos hown (by omega)
          rw [List.take_of_length_le (by rw [hrj.out]; omega)] at hown
          obtain ⟨hrow, -, -, hgb, -⟩ := ownsRow_own (Nat.le_trans hgn hf.size) hown
          have hgg2 := hgg.fr hf2
          have hrw0 := Lib.hid (ownsRow_mono hown (Nat.le_trans hgn hf.size))
          have hrw2 := Lib.hid (hrw.fr hf2)
          replace hown := Lib.hid hown
          replace hgg := Lib.hid hgg
          have hrj2 := hrj.out
          have hgl2 := hgl.out
          have hne : u3.ownBlock ≠ some gb := fun e => by have h9 := (hgg.out.own.lt gb e).2; exact Nat.lt_irrefl _ (Nat.lt_of_lt_of_le h9 hgb)
          have hne2 : ∀ h', h' ∈ hs → h'.1 ≠ gb := fun h' hm e2 => by have h9 := hgg.out.lt h' hm; rw [e2] at h9; exact Nat.lt_irrefl _ (Nat.lt_of_lt_of_le h9 hgb)
          have hown3 := hgg2.own
          rw [hgl2] at hown3
          clear hgl2 hrj2
          have hz9 := hf2.size
          go_wp2_with (at_builtin; refine wpList_append_lies _ rfl _ _ 136 (by rfl) _ 56 _ _ 1 24 Tryz.underlying136 ji jz0 jz1 jz2 rfl (by decide) _ j _ (by rfl) (World.ownsRow.alloc hown3 _) ⟨wr.heap.size, 0, none⟩ 1 1 [.slice (some ⟨gb, 0, none⟩) t cp] (by rfl) rfl (cell_one_newN _ _ _ _ (by simp)) (by simp [Value.oneCell']) (by decide) (by unfold maxLen; omega) (by omega) (by have := (hf.trans hf2).size; simp; omega) (wr.heap.size + 1) (by simp) ?_; intro gA capA wA hownA hgrowA hatA hltA)
          have hpush := (hgg2.fr ((Fr.refl wr).alloc _)).pushN (hd := (gb, 0, cp)) (hrow.fr ((Fr.refl wr).alloc _)) hne2 hne hgl.out (by unfold hdr; rw [hrj.out]) hownA hgrowA (hatA.imp id (fun e => by rw [e]; simp))
          rw [← hsn.out] at hpush
          have hfrA : Fr w wA := (((hf.trans hf2).alloc _)).grown hgrowA (fun k e => (hgg2.own.lt k e).1)
          go_roundg (ko - 1)
          case measure => omega
          case rel => 
            have hfxA := Fx.of_grown hgrowA
            have hrwA : Rows0 wA (hs ++ [(gb, 0, cp)]) (m.take j ++ [row]) := by
              refine Rows0.push ((hrw2.out.fr ((Fr.refl wr).alloc _)).fx hfxA (fun hd hm e => ?_)) hgg.out.len rfl ?_
              · obtain ⟨i9, hi9⟩ := List.getElem?_of_mem hm
                have hl9 : i9 < (m.take j).length := by rw [← hgg.out.len]; exact (List.getElem?_eq_some_iff.1 hi9).1
                exact (hgg.out.row i9 hd _ hi9 (List.getElem?_eq_getElem hl9)).2 e
              · rw [hrj.out]
                exact ownsRow_fx (ownsRow_fr hrw0.out ((Fr.refl wr).alloc _)) hfxA (fun g9 hg9 e => hne (by rw [e]; exact hg9.symm ▸ rfl))
            rw [← hsn.out] at hrwA
            exact ⟨j + 1, _, by go_num, by omega, hfrA, hpush, hrwA, fun h hm => by rcases List.mem_append.1 hm with h1 | h1; exact hnew.out h h1; (simp at h1; subst h1; exact Nat.le_trans hf.size hgb)⟩
    · have hd : decide (j < m.length) = false := decide_eq_false hlt
      have hjm : m.take j = m := List.take_of_length_le (by omega)
      rw [hjm] at hgg hrw
      replace hjm := Lib.hid hjm
      go_wp2_with fail
      go_ret
      exact ⟨_, hs, rfl, hgg, hrw, hnew, hf⟩
end Go.Proofs.YtphjfalibnnohaaGreatDoor
