/- lattice: short, form of one row, Of. -/
import Derived.Test.YtphjfalibnnohaaGreatDoorLat
import Derived.Test.YtphjfalibnnohaaGreatDoorPair
namespace Go.Proofs.YtphjfalibnnohaaGreatDoor
open Go.RowKit Go.Lib
attribute [local go_sem ↓] Go.wp_at_zero Go.wp_at_succ

/-- the cells of the two structs of the call's own -/
structure Two (w : World) (B n : Nat) (v : Value) : Prop where
  a0 : ∃ x, w.cell? ⟨B, 0, none⟩ = some x
  a1 : ∃ x, w.cell? ⟨B, 1, none⟩ = some x
  fa0 : w.frozen? ⟨B, 0, none⟩ = false
  fa1 : w.frozen? ⟨B, 1, none⟩ = false
  b0 : w.cell? ⟨B + 1, 0, none⟩ = some (.int .i64 n)
  b1 : w.cell? ⟨B + 1, 1, none⟩ = some v
  fb0 : w.frozen? ⟨B + 1, 0, none⟩ = false
  fb1 : w.frozen? ⟨B + 1, 1, none⟩ = false
theorem Two.fx {w w' : World} {B n : Nat} {v : Value} {p : Nat → Prop} (h : Two w B n v) (k : Fx p w w') (h0 : ¬ p B) (h1 : ¬ p (B + 1)) : Two w' B n v := by
  obtain ⟨⟨x, hx⟩, ⟨y, hy⟩, fa0, fa1, b0, b1, fb0, fb1⟩ := h
  exact ⟨⟨x, k.keep hx h0⟩, ⟨y, k.keep hy h0⟩, k.keepf hx fa0 h0, k.keepf hy fa1 h0, k.keep b0 h1, k.keep b1 h1, k.keepf b0 fb0 h1, k.keepf b1 fb1 h1⟩
theorem Two.set {w : World} {B n : Nat} {v : Value} (h : Two w B n v) (u : Value) : Two (w.setCell ⟨B + 1, 1, none⟩ u) B n u := by
  obtain ⟨⟨x, hx⟩, ⟨y, hy⟩, fa0, fa1, b0, b1, fb0, fb1⟩ := h
  have e1 : (⟨B + 1, 1, none⟩ : Addr) ≠ ⟨B, 0, none⟩ := fun e => by injection e with e; omega
  have e2 : (⟨B + 1, 1, none⟩ : Addr) ≠ ⟨B, 1, none⟩ := fun e => by injection e with e; omega
  have e3 : (⟨B + 1, 1, none⟩ : Addr) ≠ ⟨B + 1, 0, none⟩ := fun e => by injection e with _ e; omega
  refine ⟨⟨x, ?_⟩, ⟨y, ?_⟩, ?_, ?_, ?_, ?_, ?_, ?_⟩
  · rw [World.cell?_setCell_other _ _ _ _ e1]; exact hx
  · rw [World.cell?_setCell_other _ _ _ _ e2]; exact hy
  · rw [World.frozen?_setCell]; exact fa0
  · rw [World.frozen?_setCell]; exact fa1
  · rw [World.cell?_setCell_other _ _ _ _ e3]; exact b0
  · exact World.cell?_setCell_same' _ _ _ (by rw [b1]; rfl)
  · rw [World.frozen?_setCell]; exact fb0
  · rw [World.frozen?_setCell]; exact fb1

def LatRet (w : World) (n : Nat) (g : List (List Int)) (e : Ending) (w' : World) : Prop := ∃ a c, e = .returned (.tuple #[.agg #[.int .i64 n, .slice a g.length c], .int .i64 0]) ∧ (∀ W, Fx (· < w.heap.size) w' W → MatIs W a g) ∧ Fr w w'

set_option maxRecDepth 100000 in
set_option maxHeartbeats 4000000 in
theorem short_any (ob oc tF n : Nat) (hs : List (Nat × Nat × Nat)) (g : List (List Int)) (w : World) (hG : G w) (hg : GridIs w ob 0 hs g) (hl : g.length ≤ 1000000) (ht : tF ≤ g.length) (hr : ∀ r, r ∈ g → r.length ≤ 1000000) (hb : ∀ r, r ∈ g → ∀ x, x ∈ r → fitB x = true) :
    Calls Tryz.prog 97 #[.slice (some ⟨ob, 0, none⟩) tF oc, .int .i64 n] w (LatRet w n (g.take tF)) := by
  have hgn := gN_le hG
  obtain ⟨i1, ji, jz0, jz1, jz2⟩ := info_parts infoRow
  replace hg := Lib.hid hg
  replace hr := Lib.hid hr
  replace hb := Lib.hid hb
  replace hG := Lib.hid hG
  go_enter Tryz.func97, Tryz.ntmps97
  go_wp2_with fail
  have htwo : Two ((w.alloc (.cells #[.int .i64 0, .slice none 0 0] 108)).alloc (.cells #[.int .i64 n, .slice none 0 0] 108)) w.heap.size n (.slice none 0 0) := by
    have hfr : Fr (w.alloc (.cells #[.int .i64 0, .slice none 0 0] 108)) ((w.alloc (.cells #[.int .i64 0, .slice none 0 0] 108)).alloc (.cells #[.int .i64 n, .slice none 0 0] 108)) := (Fr.refl _).alloc _
    have p1 := new2a w (.int .i64 0) (.slice none 0 0) 108
    have p2 := new2b w (.int .i64 0) (.slice none 0 0) 108
    have p3 := new2a (w.alloc (.cells #[.int .i64 0, .slice none 0 0] 108)) (.int .i64 n) (.slice none 0 0) 108
    have p4 := new2b (w.alloc (.cells #[.int .i64 0, .slice none 0 0] 108)) (.int .i64 n) (.slice none 0 0) 108
    rw [World.size_alloc] at p3 p4
    exact ⟨⟨_, hfr.keep p1.1⟩, ⟨_, hfr.keep p2.1⟩, hfr.keepf p1.1 p1.2, hfr.keepf p2.1 p2.2, p3.1, p4.1, p3.2, p4.2⟩
  have hfr0 : Fr w ((w.alloc (.cells #[.int .i64 0, .slice none 0 0] 108)).alloc (.cells #[.int .i64 n, .slice none 0 0] 108)) := ((Fr.refl _).alloc _).alloc _
  go_loopg [15] tF (fun k s15 wr => ∃ (j : Nat) (hO : List (Nat × Nat × Nat)) (v : Value), s15 = .int .i64 j ∧ j + k = tF ∧ Fr w wr ∧ Hid (w.heap.size + 2 ≤ wr.heap.size) ∧ Two wr w.heap.size n v ∧ GI wr (w.heap.size + 2) 33 v hO (g.take j) ∧ Hid (∀ h, h ∈ hO → w.heap.size + 2 ≤ h.1))
  case atStart => exact ⟨0, [], _, rfl, by omega, hfr0, by show _ ≤ _; simp, htwo, GI.nil _ _ _ (by omega), fun h hm => by simp at hm⟩
  case round =>
    clear htwo hfr0
    obtain ⟨j, hO, v, rfl, hjk, hf, hsz, htw, hgi, hnew⟩ := hrel
    obtain ⟨⟨x0, a0⟩, ⟨x1, a1⟩, fa0, fa1, b0, b1, fb0, fb1⟩ := htw
    have htw := Lib.hid (show Two wr w.heap.size n v from ⟨⟨x0, a0⟩, ⟨x1, a1⟩, fa0, fa1, b0, b1, fb0, fb1⟩)
    by_cases hlt : j < tF
    · have hjl : j < g.length := by omega
      obtain ⟨rb, ro, rc, e1, ca1, cf1, ro1, bo1⟩ := (hg.out.fr hf).at hjl
      rw [Nat.zero_add] at ca1
      have hsn := take_snoc (List.getElem?_eq_getElem hjl)
      have hrj := hr.out _ (List.getElem_mem hjl)
      have hsh := shortRow_any g[j] rb ro rc wr (hG.out.fr hf) ro1 hrj (hb.out _ (List.getElem_mem hjl))
      have hgl : (g.take j).length = j := by rw [List.length_take]; omega
      generalize g[j] = row at *
      obtain ⟨m, hm⟩ : ∃ m, m = row.length := ⟨_, rfl⟩
      rw [← hm] at ca1 hsh
      replace hm := Lib.hid hm
      replace hsn := Lib.hid hsn
      replace hgl := Lib.hid hgl
      replace hgi := Lib.hid hgi
      replace ro1 := Lib.hid ro1
      replace e1 := Lib.hid e1
      clear a0 a1 fa0 fa1 b0 b1 fb0 fb1
      go_wp2_with fail
      refine hsh.mono ?_
      clear hsh
      rintro e w2 ⟨gg, c, rfl, hf2, hown2⟩
      obtain ⟨hO2, -, -, hgb, hcp⟩ := ownsRow_ownI (Nat.le_trans hgn hf.size) hown2
      have hgi2 := hgi.out.fr hf2
      have hne : v.ownBlock ≠ some gg := fun e => by have h9 := (hgi.out.own.lt gg e).2; omega
      have hne2 : ∀ h', h' ∈ hO → h'.1 ≠ gg := fun h' hm e2 => by have h9 := hgi.out.lt h' hm; omega
      have hown3 := hgi2.own
      rw [hgl.out] at hown3
      rw [← hm.out]
      have hvb : ∀ b, v.ownBlock = some b → w.heap.size + 2 ≤ b := fun b e => (hgi2.own.lt b e).1
      have htw2 := htw.out.fx (p := fun _ => False) (Fx.of_fr hf2) (fun e => e) (fun e => e)
      obtain ⟨⟨y0, a0⟩, ⟨y1, a1⟩, fa0, fa1, b0, b1, fb0, fb1⟩ := htw2
      have htw2 := Lib.hid (show Two w2 w.heap.size n v from ⟨⟨y0, a0⟩, ⟨y1, a1⟩, fa0, fa1, b0, b1, fb0, fb1⟩)
      clear a0 a1 fa0 fa1 b0
      replace hgi2 := Lib.hid hgi2
      replace hown2 := Lib.hid hown2
      replace hvb := Lib.hid hvb
      have hszz := hsz.out
      have htwA : ∀ wA : World, (w2.alloc (.cells #[.slice (some ⟨gg, 0, none⟩) m c] 33)).grownBy wA v.ownBlock → Two wA w.heap.size n v := fun wA hgw =>
        (htw2.out.fx (p := fun _ => False) (Fx.of_fr ((Fr.refl w2).alloc _)) (fun e => e) (fun e => e)).fx (Fx.of_grown hgw) (fun e => by have := hvb.out _ e; omega) (fun e => by have := hvb.out _ e; omega)
      replace htwA := Lib.hid htwA
      go_wp2_with (at_builtin; refine wpList_append_lies _ rfl _ _ 77 (by rfl) _ 33 _ _ 1 24 Tryz.underlying77 ji jz0 jz1 jz2 rfl (by decide) _ j _ (by rfl) (World.ownsRow.alloc hown3 _) ⟨w2.heap.size, 0, none⟩ 1 1 [.slice (some ⟨gg, 0, none⟩) m c] (by rfl) rfl (cell_one_newN _ _ _ _ (by simp)) (by simp [Value.oneCell']) (by decide) (by unfold maxLen; omega) (by omega) (by have := (hf.trans hf2).size; have := hf2.size; simp; omega) (w2.heap.size + 1) (by simp) ?_; intro gA capA wA hownA hgrowA hatA hltA; have htw3 := htwA.out wA hgrowA; have hbb := htw3.b1; have hfb := htw3.fb1; replace htw3 := Lib.hid htw3)
      have hpush := (hgi2.out.fr ((Fr.refl w2).alloc _)).pushN (hd := (gg, 0, c)) (hO2.fr ((Fr.refl w2).alloc _)) hne2 hne hgl.out (by unfold hdr; rw [← hm.out]) hownA hgrowA (hatA.imp id (fun e => by rw [e]; simp))
      rw [← hsn.out] at hpush
      have hfrA : Fr w wA := (((hf.trans hf2).alloc _)).grown hgrowA (fun k e => by have := hvb.out k e; omega)
      have hfx9 : Fx (· = w.heap.size + 1) wA (wA.setCell ⟨w.heap.size + 1, 1, none⟩ (.slice (some ⟨gA, 0, none⟩) (j + 1) capA)) := Fx.setCell (p := (· = w.heap.size + 1)) (q := ⟨w.heap.size + 1, 1, none⟩) (Fx.refl _ wA) (.inl rfl) _
      have hpush2 := hpush.fx hfx9 (fun b e e2 => by have e3 : b = w.heap.size + 1 := e2; have h9 := (hpush.own.lt b e).1; omega) (fun hd hm9 e2 => by rcases List.mem_append.1 hm9 with h1 | h1; (have e3 : hd.1 = w.heap.size + 1 := e2; have := hnew.out hd h1; omega); (simp at h1; subst h1; have e3 : gg = w.heap.size + 1 := e2; omega))
      have htw4 := htw3.out.set (.slice (some ⟨gA, 0, none⟩) (j + 1) capA)
      have hfr9 : Fr w (wA.setCell ⟨w.heap.size + 1, 1, none⟩ (.slice (some ⟨gA, 0, none⟩) (j + 1) capA)) := hfrA.setCell (p := ⟨w.heap.size + 1, 1, none⟩) (by simp) _
      go_roundg (gk - 1)
      case measure => omega
      case rel => exact ⟨j + 1, _, _, by go_num, by omega, hfr9, Lib.hid (by have h7 := hf2.size; have h8 := hgrowA.size; have h9 := hszz; simp at h8; simp; omega), htw4, hpush2, fun h hm9 => by rcases List.mem_append.1 hm9 with h1 | h1; exact hnew.out h h1; (simp at h1; subst h1; exact Nat.le_trans hsz.out hgb)⟩
    · have hd : decide (j < tF) = false := decide_eq_false hlt
      obtain rfl : j = tF := by omega
      obtain ⟨a9, c9, rfl, -⟩ := ownsRow_slice hgi.own
      have hgl : (g.take j).length = j := by rw [List.length_take]; omega
      rw [hgl] at hgi b1 htw
      go_wp2_with fail
      have q0 : (wr.setCell ⟨w.heap.size, 0, none⟩ (.int .i64 n)).cell? ⟨w.heap.size, 0, none⟩ = some (.int .i64 n) := World.cell?_setCell_same' _ _ _ (by rw [a0]; rfl)
      have e1 : (⟨w.heap.size, 0, none⟩ : Addr) ≠ ⟨w.heap.size, 1, none⟩ := fun e => by injection e with _ e; omega
      have q1 : ((wr.setCell ⟨w.heap.size, 0, none⟩ (.int .i64 n)).setCell ⟨w.heap.size, 1, none⟩ (.slice a9 j c9)).cell? ⟨w.heap.size, 1, none⟩ = some (.slice a9 j c9) := World.cell?_setCell_same' _ _ _ (by rw [World.cell?_setCell_other _ _ _ _ e1, a1]; rfl)
      refine bodyPost_ret (v := .tuple #[.agg #[.int .i64 n, .slice a9 j c9], .int .i64 0]) (by simp [results, Tryz.results97, go_sem, q0, q1]) rfl ⟨a9, c9, by rw [hgl], ?_, (hf.setCell (p := ⟨w.heap.size, 0, none⟩) (by simp) _).setCell (p := ⟨w.heap.size, 1, none⟩) (by simp) _⟩
      have hfx : Fx (· = w.heap.size) wr ((wr.setCell ⟨w.heap.size, 0, none⟩ (.int .i64 n)).setCell ⟨w.heap.size, 1, none⟩ (.slice a9 j c9)) := Fx.setCell (p := (· = w.heap.size)) (q := ⟨w.heap.size, 1, none⟩) (Fx.setCell (p := (· = w.heap.size)) (q := ⟨w.heap.size, 0, none⟩) (Fx.refl _ wr) (.inl rfl) _) (.inl rfl) _
      intro W hW
      exact ((hgi.fx hfx (fun b e e2 => by have e3 : b = w.heap.size := e2; have h9 := (hgi.own.lt b e).1; omega) (fun hd hm9 e2 => by have e3 : hd.1 = w.heap.size := e2; have := hnew.out hd hm9; omega)).fx hW (fun b e e2 => by have e3 : b < w.heap.size := e2; have h9 := (hgi.own.lt b e).1; omega) (fun hd hm9 e2 => by have e3 : hd.1 < w.heap.size := e2; have := hnew.out hd hm9; omega)).mat
end Go.Proofs.YtphjfalibnnohaaGreatDoor
