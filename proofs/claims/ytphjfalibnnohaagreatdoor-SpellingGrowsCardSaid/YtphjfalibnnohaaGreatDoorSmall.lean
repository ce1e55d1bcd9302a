/- smith.small, Kernel; table.Check. -/
import Derived.Test.YtphjfalibnnohaaGreatDoorGI
namespace Go.Proofs.YtphjfalibnnohaaGreatDoor
open Go.RowKit Go.Lib
attribute [local go_sem ↓] Go.wp_at_zero Go.wp_at_succ

theorem infoInt : (Tryz.prog.info? 3).map (fun i => (i.zero, i.size, i.bytes)) = some (some (.int .i64 0), 1, 8) := by kernel_rfl
theorem infoRow : (Tryz.prog.info? 33).map (fun i => (i.zero, i.size, i.bytes)) = some (some (.slice none 0 0), 1, 24) := by kernel_rfl

theorem ownsRow_nn {w : World} {base : Nat} {e : TypeId} {size : Nat} {v : Value} {n : Nat} {xs : List Value} (h : w.ownsRow base e size v n xs) (hn : v ≠ .slice none 0 0) : ∃ g cap, v = .slice (some ⟨g, 0, none⟩) n cap := by
  obtain ⟨_, h2⟩ := h
  rcases h2 with ⟨h2, _⟩ | ⟨g, cap, _, hv, _⟩
  · exact absurd h2 hn
  · exact ⟨g, cap, hv⟩

/-- a matrix and no error -/
def MatRet (w : World) (g : List (List Int)) (e : Ending) (w' : World) : Prop := ∃ a c, e = .returned (.tuple #[.slice a g.length c, .int .i64 0]) ∧ MatIs w' a g ∧ Fr w w'

set_option maxRecDepth 100000 in
set_option maxHeartbeats 4000000 in
theorem small_any (base : Nat) (E : TypeId) (a : Option Addr) (c : Nat) (hs : List (Nat × Nat × Nat)) (g : List (List Int)) (w : World) (hG : G w) (hg : GG w base E (.slice a g.length c) hs g) (hl : g.length ≤ 1000000) (hr : ∀ r, r ∈ g → r.length ≤ 1000000) (hb : ∀ r, r ∈ g → ∀ x, x ∈ r → fitB x = true) :
    Calls Tryz.prog 91 #[.slice a g.length c] w (MatRet w g) := by
  have hgn := gN_le hG
  obtain ⟨i0, hi, hz0, hz1, hz2⟩ := info_parts infoInt
  obtain ⟨i1, ji, jz0, jz1, jz2⟩ := info_parts infoRow
  replace hg := Lib.hid hg
  replace hr := Lib.hid hr
  replace hb := Lib.hid hb
  replace hG := Lib.hid hG
  go_enter Tryz.func91, Tryz.ntmps91
  go_wp2_with fail
  go_loopg [4, 14] g.length (fun k s4 s14 wr => ∃ (j : Nat) (hO : List (Nat × Nat × Nat)), s14 = .int .i64 j ∧ j + k = g.length ∧ Fr w wr ∧ GI wr w.heap.size 33 s4 hO (g.take j))
  case atStart => exact ⟨0, [], rfl, by omega, Fr.refl _, GI.nil _ _ _ hgn⟩
  case round =>
    obtain ⟨j, hO, rfl, hjk, hf, hgi⟩ := hrel
    by_cases hlt : j < g.length
    · obtain ⟨gb, cp, hv⟩ := ownsRow_pos hg.out.own (by omega)
      injection hv with hv1 hv2 hv3
      subst hv1; subst hv3
      obtain ⟨b1, o1, k1, e1, ca1, cf1, ro1, bo1⟩ := (hg.out.grid.1.fr hf).at hlt
      have hsn := take_snoc (List.getElem?_eq_getElem hlt)
      have hrj := hr.out _ (List.getElem_mem hlt)
      have hbj := hb.out _ (List.getElem_mem hlt)
      rw [Nat.zero_add] at ca1
      generalize hgj : g[j] = row at *
      have hgl : (g.take j).length = j := by rw [List.length_take]; omega
      obtain ⟨n, hn⟩ : ∃ n, n = row.length := ⟨_, rfl⟩
      rw [← hn] at ca1 hrj
      replace hgj := Lib.hid hgj
      replace hsn := Lib.hid hsn
      replace hbj := Lib.hid hbj
      replace hgl := Lib.hid hgl
      replace hn := Lib.hid hn
      replace ro1 := Lib.hid ro1
      replace hgi := Lib.hid hgi
      clear hv2
      obtain ⟨wo, rfl⟩ : ∃ wo : World, wo = wr := ⟨_, rfl⟩
      obtain ⟨ko, rfl⟩ : ∃ ko : Nat, ko = gk := ⟨_, rfl⟩
      go_wp2_with fail
      go_loopg [7, 21] n (fun k s7 s21 wr2 => ∃ t : Nat, s21 = .int .i64 t ∧ t + k = n ∧ Fr wo wr2 ∧ wr2.ownsRow wo.heap.size 3 1 s7 t ((row.take t).map iv) ∧ s7 ≠ .slice none 0 0)
      case atStart => exact ⟨0, rfl, by omega, (Fr.refl _).alloc _, by simpa using ownsRow_empty wo wo.heap.size _ _ (Nat.le_refl _), by simp⟩
      case round =>
        obtain ⟨t, rfl, htk, hf2, hown, hnn⟩ := hrel
        by_cases ht : t < n
        · obtain ⟨b2, o2, x, hae, hbl2, hxt, hcell2⟩ := (ro1.out.el.fr hf2).at (i := t) (by rw [← hn.out]; exact ht)
          injection hae with hae; injection hae with hb2 ho2
          subst hb2; subst ho2
          have hfx := hbj.out x (List.mem_of_getElem? hxt)
          unfold fitB at hfx
          have hfx := of_decide_eq_true hfx
          obtain ⟨x1, x2⟩ := hfx
          have hd1 : decide ((1000000000 : Int) < x) = false := decide_eq_false (by omega)
          have hd2 : decide (x < -1000000000) = false := decide_eq_false (by omega)
          have hsn2 := Lib.hid (take_snoc hxt)
          replace hxt := Lib.hid hxt
          go_wp2_with fail
          refine (Small_ok x (by omega) (by omega) _).mono ?_
          rintro e w2 ⟨rfl, hf3⟩
          go_wp2_with (at_builtin; refine wpList_append_lies _ rfl _ _ 33 (by rfl) _ 3 _ _ 1 8 Tryz.underlying33 hi hz0 hz1 hz2 rfl (by decide) _ t _ (by rfl) (World.ownsRow.alloc (ownsRow_fr hown hf3) _) ⟨w2.heap.size, 0, none⟩ 1 1 [iv x] (by rfl) rfl (cell_one_newN _ _ _ _ (by simp)) (by simp [Value.oneCell']) (by decide) (by unfold maxLen; omega) (by omega) (by have := (hf2.trans hf3).size; simp; omega) (w2.heap.size + 1) (by simp) ?_; intro gA capA wA hownA hgrowA hatA hltA)
          go_wp2_with fail
          go_roundg (gk - 1)
          case measure => omega
          case rel => exact ⟨t + 1, by go_num, by omega, ((hf2.trans hf3).alloc _).grown hgrowA (fun k e => (hown.lt k e).1), by rw [hsn2.out, List.map_append]; exact hownA, by simp⟩
        · have hd : decide (t < n) = false := decide_eq_false ht
          obtain rfl : t = n := by omega
          obtain ⟨gb7, cp7, rfl⟩ := ownsRow_nn hown hnn
          rw [List.take_of_length_le (by rw [← hn.out]; omega)] at hown
          obtain ⟨hrow, -, -, hgb, -⟩ := ownsRow_ownI (Nat.le_trans hgn hf.size) hown
          have hgi2 := hgi.out.fr hf2
          replace hown := Lib.hid hown
          have hgl2 := hgl.out
          have hne : u4.ownBlock ≠ some gb7 := fun e => by have h9 := (hgi.out.own.lt gb7 e).2; exact Nat.lt_irrefl _ (Nat.lt_of_lt_of_le h9 hgb)
          have hne2 : ∀ h', h' ∈ hO → h'.1 ≠ gb7 := fun h' hm e2 => by have h9 := hgi.out.lt h' hm; rw [e2] at h9; exact Nat.lt_irrefl _ (Nat.lt_of_lt_of_le h9 hgb)
          have hown3 := hgi2.own
          rw [hgl2] at hown3
          clear hgl2 hnn
          replace hgi2 := Lib.hid hgi2
          have hz9 := (hf.trans hf2).size
          go_wp2_with (at_builtin; refine wpList_append_lies _ rfl _ _ 77 (by rfl) _ 33 _ _ 1 24 Tryz.underlying77 ji jz0 jz1 jz2 rfl (by decide) _ j _ (by rfl) (World.ownsRow.alloc hown3 _) ⟨wr.heap.size, 0, none⟩ 1 1 [.slice (some ⟨gb7, 0, none⟩) t cp7] (by rfl) rfl (cell_one_newN _ _ _ _ (by simp)) (by simp [Value.oneCell']) (by decide) (by unfold maxLen; omega) (by omega) (by skip; simp; omega) (wr.heap.size + 1) (by simp) ?_; intro gA capA wA hownA hgrowA hatA hltA)
          have hpush := (hgi2.out.fr ((Fr.refl wr).alloc _)).pushN (hd := (gb7, 0, cp7)) (hrow.fr ((Fr.refl wr).alloc _)) hne2 hne hgl.out (by unfold hdr; rw [← hn.out]) hownA hgrowA (hatA.imp id (fun e => by rw [e]; simp))
          rw [← hsn.out] at hpush
          have hfrA : Fr w wA := (((hf.trans hf2).alloc _)).grown hgrowA (fun k e => (hgi2.out.own.lt k e).1)
          go_roundg (ko - 1)
          case measure => omega
          case rel => exact ⟨j + 1, _, by go_num, by omega, hfrA, hpush⟩
    · have hd : decide (j < g.length) = false := decide_eq_false hlt
      have hjm : g.take j = g := List.take_of_length_le (by omega)
      rw [hjm] at hgi
      obtain ⟨a9, c9, rfl, -⟩ := ownsRow_slice hgi.own
      replace hjm := Lib.hid hjm
      go_wp2_with fail
      go_ret2
      exact ⟨a9, c9, rfl, hgi.mat, hf⟩

/-! ### table.Check -/
def great (n : Int) : Bool := decide (1000000000 < n ∨ n < -1000000000)
def tabE1 (n0 : Nat) : List (List Int) → Int
  | [] => 0
  | r :: l => if 12 < r.length then 4 else if r.length ≠ n0 then 5 else if r.any (fun x => !fitB x) then 4 else tabE1 n0 l
def tabE (m : List (List Int)) : Int := if 12 < m.length then 4 else tabE1 (rowAt m 0).length m

theorem great_any (n : Int) (w : World) : Calls Tryz.prog 121 #[.int .i64 n] w fun e w' => e = .returned (.bool (!fitB n)) ∧ w = w' := by
  by_cases h1 : 1000000000 < n
  · have hf := Lib.hid (show (!fitB n) = true by unfold fitB; rw [decide_eq_false (by omega)]; rfl)
    have d1 : decide ((1000000000 : Int) < n) = true := decide_eq_true h1
    clear h1
    go_enter Tryz.func121, Tryz.ntmps121
    go_wp2_with fail
    go_ret
    exact ⟨ret_bool hf.out.symm, rfl⟩
  · have d1 : decide ((1000000000 : Int) < n) = false := decide_eq_false h1
    by_cases h2 : n < -1000000000
    · have hf := Lib.hid (show (!fitB n) = true by unfold fitB; rw [decide_eq_false (by omega)]; rfl)
      have d2 : decide (n < -1000000000) = true := decide_eq_true h2
      clear h1 h2
      go_enter Tryz.func121, Tryz.ntmps121
      go_wp2_with fail
      go_ret
      exact ⟨ret_bool hf.out.symm, rfl⟩
    · have hf := Lib.hid (show (!fitB n) = false by unfold fitB; rw [decide_eq_true (by omega)]; rfl)
      have d2 : decide (n < -1000000000) = false := decide_eq_false h2
      clear h1 h2
      go_enter Tryz.func121, Tryz.ntmps121
      go_wp2_with fail
      go_ret
      exact ⟨ret_bool hf.out.symm, rfl⟩
theorem great_pred (w : World) (xs : List Int) : Pred w 121 #[] iv (fun n => !fitB n) xs := fun x W _ _ =>
  (great_any x W).mono fun _ _ ⟨h, k⟩ => ⟨h, Fr.of_eq k⟩

/-- a right matrix of some columns -/
def TabOk (n : Nat) (m : List (List Int)) : Prop := m.length ≤ 12 ∧ n ≤ 12 ∧ Rect n m ∧ ∀ r, r ∈ m → ∀ x, x ∈ r → fitB x = true

set_option maxHeartbeats 4000000 in
theorem tabCheck_ok (m : List (List Int)) (a : Option Addr) (cap n : Nat) (w : World) (hm : MatIs w a m) (hok : TabOk n m) :
    Calls Tryz.prog 90 #[.slice a m.length cap] w fun e w' => e = .returned (.int .i64 0) ∧ Fr w w' := by
  obtain ⟨h1, h2, h3, h4⟩ := hok
  replace hm := Lib.hid hm
  replace h3 := Lib.hid h3
  replace h4 := Lib.hid h4
  go_enter Tryz.func90, Tryz.ntmps90
  go_wp2_with fail
  go_loopg [10] m.length (fun k s10 wr => ∃ j : Nat, s10 = .int .i64 j ∧ j + k = m.length ∧ Fr w wr)
  case atStart => exact ⟨0, rfl, by omega, Fr.refl _⟩
  case round =>
    obtain ⟨j, rfl, hjk, hf⟩ := hrel
    by_cases hlt : j < m.length
    · obtain ⟨b, o, a', c', rfl, hc, hel⟩ := (hm.out.fr hf).at hlt
      obtain ⟨b9, o9, a9, c9, hae, hc9, hel9⟩ := (hm.out.fr hf).at (i := 0) (by omega)
      injection hae with hae; injection hae with hb9 ho9
      subst hb9; subst ho9
      rw [h3.out.row hlt] at hc
      rw [h3.out.row (i := 0) (by omega), Nat.add_zero] at hc9
      have hany : (m[j]).any (fun x => !fitB x) = false := List.any_eq_false.2 (fun x hx => by rw [h4.out _ (List.getElem_mem hlt) x hx]; simp)
      have eg : ∀ args w, (callFunc 121 args).run Tryz.prog w = .ok (.enter 121 args) w := enters_of Tryz.func121 (by kernel_rfl) rfl
      have hcf := ContainsFunc_row m[j] a' c' 121 #[] (fun n => !fitB n) wr eg hel (by rw [h3.out.row hlt]; omega) (great_pred wr _)
      rw [h3.out.row hlt, hany] at hcf
      clear eg hel hel9 hany
      have z0 : (0 : Int) ≤ (j : Int) := Int.natCast_nonneg _
      have z1 : (j : Int) < (m.length : Int) := by omega
      go_wp2_with fail
      refine hcf.mono ?_
      clear hcf
      rintro e w2 ⟨rfl, hf2⟩
      go_wp2_with fail
      go_roundg (gk - 1)
      case measure => omega
      case rel => exact ⟨j + 1, by go_num, by omega, hf.trans hf2⟩
    · have hd : decide (j < m.length) = false := decide_eq_false hlt
      go_wp2_with fail
      go_ret
      exact ⟨rfl, hf⟩
end Go.Proofs.YtphjfalibnnohaaGreatDoor
