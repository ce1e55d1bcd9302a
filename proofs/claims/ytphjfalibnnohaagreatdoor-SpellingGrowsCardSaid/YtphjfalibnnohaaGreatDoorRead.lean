/- spelling.Read, bound. -/
import Derived.Test.YtphjfalibnnohaaGreatDoorOpen
namespace Go.Proofs.YtphjfalibnnohaaGreatDoor
open Go.RowKit Go.Lib

theorem new1 (w : World) (x : Value) (t : TypeId) : (w.alloc (.cells #[x] t)).cell? ⟨w.heap.size, 0, none⟩ = some x ∧ (w.alloc (.cells #[x] t)).frozen? ⟨w.heap.size, 0, none⟩ = false := by
  have h := heap_alloc_new w (.cells #[x] t (0, 0))
  exact ⟨by unfold World.cell?; rw [h]; rfl, by unfold World.frozen?; rw [h]; rfl⟩
/-- a slice of one spelling in a block of its own -/
theorem Sps.one (W : World) (x : Sp) (t : TypeId) (h : El W iv x.ca x.cs) : Sps (W.alloc (.cells #[.int .i64 x.i, .slice x.ca x.cs.length x.cc] t)) (some ⟨W.heap.size, 0, none⟩) [x] := by
  refine ⟨.inr ⟨W.heap.size, 0, rfl, by simp, fun i z hz => ?_⟩, fun y hy => ?_⟩
  · cases i with
    | zero =>
      injection hz with hz; subst hz
      exact ⟨(new2a W _ _ t).1, (new2b W _ _ t).1⟩
    | succ i => simp at hz
  · simp at hy; subst hy; exact h.fr ((Fr.refl W).alloc _)
theorem spE_ok {N A : List Sy} {i : Nat} {cs : List Int} (hi : i < N.length) (hl : cs.length = A.length) (h64 : cs.length ≤ 64) (hf : ∀ x, x ∈ cs → fitB x = true) : spE N A i cs = 0 := by
  unfold spE
  rw [if_neg (by omega), if_neg (by rw [hl]; simp)]
  exact rowE_ok (by omega) (by rw [List.any_eq_false]; intro x hx; rw [hf x hx]; simp)
theorem spE_inv {N A : List Sy} {i : Int} {cs : List Int} (h : spE N A i cs = 0) : 0 ≤ i ∧ i < N.length ∧ cs.length = A.length ∧ ∀ x, x ∈ cs → fitB x = true := by
  unfold spE at h
  by_cases h1 : i < 0 ∨ (N.length : Int) ≤ i
  · rw [if_pos h1] at h; omega
  · rw [if_neg h1] at h
    by_cases h2 : cs.length = A.length
    · rw [if_neg (by rw [h2]; simp)] at h
      refine ⟨by omega, by omega, h2, fun x hx => ?_⟩
      unfold rowE at h
      split at h
      · omega
      · split at h
        · omega
        · rename_i h3
          cases hb : fitB x with
          | true => rfl
          | false => exact absurd (List.any_eq_true.2 ⟨x, hx, by rw [hb]; rfl⟩) h3
    · rw [if_pos h2] at h; omega

/-- a row and no error, or an error -/
def RowE (w : World) (xs : List Int) (err : Int) (e : Ending) (w' : World) : Prop :=
  (err = 0 → ∃ g c, e = .returned (.tuple #[.slice (some ⟨g, 0, none⟩) xs.length c, .int .i64 0]) ∧ w.heap.size ≤ g ∧ El w' iv (some ⟨g, 0, none⟩) xs) ∧
  (err ≠ 0 → e = .returned (.tuple #[.slice none 0 0, .int .i64 err])) ∧ Fr w w'
/-- what Read says -/
def readE (N A : List Sy) (i : Int) (cs : List Int) : Int := if spE N A i cs = 0 then rowE (sumS N A (i.toNat, cs)) else spE N A i cs

theorem sumS_length {d : Nat} {N A : List Sy} (hok : NotOk d N A) {i : Nat} (hi : i < N.length) (cs : List Int) : (sumS N A (i, cs)).length = d := by
  obtain ⟨x, hx⟩ : ∃ x, N[i]? = some x := ⟨_, List.getElem?_eq_getElem hi⟩
  unfold sumS
  rw [rowOf_eq hx]
  refine sumL_length d _ _ _ (hok.row x (List.mem_append_left _ (List.mem_of_getElem? hx))) (fun y hy => ?_)
  obtain ⟨z, hz, rfl⟩ := List.mem_map.1 hy
  exact hok.row z (List.mem_append_right _ hz)

set_option maxRecDepth 100000 in
set_option maxHeartbeats 4000000 in
theorem Read_any (d : Nat) (aN aA : Option Addr) (cN cA : Nat) (N A : List Sy) (x : Sp) (w : World) (hn : NotIs w aN aA cA N A) (hok : NotOk d N A) (hd : 1 ≤ d) (hcs : El w iv x.ca x.cs) (hl : x.cs.length ≤ 1000000000) :
    Calls Tryz.prog 14 #[.agg #[.slice aN N.length cN, .slice aA A.length cA], .agg #[.int .i64 x.i, .slice x.ca x.cs.length x.cc]] w (RowE w (sumS N A (x.i.toNat, x.cs)) (readE N A x.i x.cs)) := by
  have hop := fun W (hW : Fr w W) => open_any d aN aA cN cA N A [x] (some ⟨W.heap.size, 0, none⟩) 1 (W.alloc (.cells #[.int .i64 x.i, .slice x.ca x.cs.length x.cc] 42)) (hn.fr (hW.alloc _)) hok (Sps.one W x _ (hcs.fr hW)) (by simp) (by simp; exact hl)
  simp only [spsE, List.length_cons, List.length_nil, Nat.zero_add] at hop
  by_cases h0 : spE N A x.i x.cs = 0
  · obtain ⟨i1, i2, i3, i4⟩ := spE_inv h0
    obtain ⟨xi, hxi⟩ : ∃ xi : Nat, x.i = xi := ⟨x.i.toNat, by omega⟩
    have hsum := fun W (hW : Fr w W) => sum_any d aN aA cN cA N A xi x.cs x.ca x.cc W (hn.fr hW) hok hd (by omega) (hcs.fr hW) i3 i4
    have hRl := sumS_length hok (i := xi) (by omega) x.cs
    have hd12 := hok.d12
    unfold readE
    rw [if_pos h0]
    rw [h0] at hop
    rw [hxi] at hop ⊢
    rw [show ((xi : Int).toNat) = xi by omega]
    clear h0
    generalize sumS N A (xi, x.cs) = R at *
    generalize x.cs.length = cl at *
    generalize x.ca = ca at *
    generalize x.cc = cc at *
    have hck := fun W a c (hW : El W iv a R) => Check_row R a c W hW (by omega)
    obtain ⟨er, her⟩ : ∃ er, er = rowE R := ⟨_, rfl⟩
    rw [← her] at hck ⊢
    replace hop := Lib.hid hop
    replace hsum := Lib.hid hsum
    replace hck := Lib.hid hck
    replace hRl := Lib.hid hRl
    replace her := Lib.hid her
    clear hn hok hcs i1 i2 i3 i4 hxi
    have b1 := new2a w (.slice aN N.length cN) (.slice aA A.length cA) 30
    have b2 := new2b w (.slice aN N.length cN) (.slice aA A.length cA) 30
    have hfa : Fr (w.alloc (.cells #[.slice aN N.length cN, .slice aA A.length cA] 30)) ((w.alloc (.cells #[.slice aN N.length cN, .slice aA A.length cA] 30)).alloc (.cells #[.int .i64 xi, .slice ca cl cc] 42)) := (Fr.refl _).alloc _
    have b3 := new2a (w.alloc (.cells #[.slice aN N.length cN, .slice aA A.length cA] 30)) (.int .i64 xi) (.slice ca cl cc) 42
    have b4 := new2b (w.alloc (.cells #[.slice aN N.length cN, .slice aA A.length cA] 30)) (.int .i64 xi) (.slice ca cl cc) 42
    rw [show (w.alloc (.cells #[.slice aN N.length cN, .slice aA A.length cA] 30)).heap.size = w.heap.size + 1 by simp] at b3 b4
    replace b1 := Lib.hid (hfa.keep b1.1)
    replace b2 := Lib.hid (hfa.keep b2.1)
    replace b3 := Lib.hid b3.1
    replace b4 := Lib.hid b4.1
    have hfb : Fr w _ := ((Fr.refl w).alloc _).trans hfa
    replace hfb := Lib.hid hfb
    have hsB := hfb.out.size
    clear hfa
    have hop1 := hop.out _ hfb.out
    rw [show ((w.alloc (.cells #[.slice aN N.length cN, .slice aA A.length cA] 30)).alloc (.cells #[.int .i64 xi, .slice ca cl cc] 42)).heap.size = w.heap.size + 2 by simp] at hop1
    simp only [if_true] at hop1
    replace hop1 := Lib.hid hop1
    clear hop
    by_cases h1 : er = 0
    · subst h1
      go_enter Tryz.func14, Tryz.ntmps14
      go_wp2_with fail
      refine hop1.out.mono ?_
      rintro e w1 ⟨rfl, hf1⟩
      have hfc := ((Fr.refl _).alloc _).trans hf1
      have c1 := hfc.keep b1.out
      have c2 := hfc.keep b2.out
      have c3 := hfc.keep b3.out
      have c4 := hfc.keep b4.out
      have hfd := hfb.out.trans hfc
      clear hfc hf1
      go_wp2_with fail
      refine (hsum.out _ hfd).mono ?_
      rintro e w2 ⟨g, c, rfl, hg, hel, hf2⟩
      have hgw := Nat.le_trans hfd.size hg
      replace hel := Lib.hid hel
      rw [hRl.out]
      go_wp2_with fail
      have hck1 := hck.out _ _ c hel.out
      rw [hRl.out] at hck1
      refine hck1.mono ?_
      clear hck1
      rintro e w3 ⟨rfl, hf3⟩
      go_wp2_with fail
      go_ret2
      exact ⟨fun _ => ⟨g, c, by rw [hRl.out]; rfl, hgw, hel.out.fr hf3⟩, fun h => absurd rfl h, hfd.trans (hf2.trans hf3)⟩
    · have hq : (er != 0) = true := by rw [bne_iff_ne]; exact h1
      go_enter Tryz.func14, Tryz.ntmps14
      go_wp2_with fail
      refine hop1.out.mono ?_
      rintro e w1 ⟨rfl, hf1⟩
      have hfc := ((Fr.refl _).alloc _).trans hf1
      have c1 := hfc.keep b1.out
      have c2 := hfc.keep b2.out
      have c3 := hfc.keep b3.out
      have c4 := hfc.keep b4.out
      have hfd := hfb.out.trans hfc
      clear hfc hf1
      go_wp2_with fail
      refine (hsum.out _ hfd).mono ?_
      rintro e w2 ⟨g, c, rfl, hg, hel, hf2⟩
      replace hel := Lib.hid hel
      rw [hRl.out]
      go_wp2_with fail
      have hck1 := hck.out _ _ c hel.out
      rw [hRl.out] at hck1
      refine hck1.mono ?_
      clear hck1
      rintro e w3 ⟨rfl, hf3⟩
      go_wp2_with fail
      go_ret2
      exact ⟨fun h => absurd h h1, fun _ => rfl, hfd.trans (hf2.trans hf3)⟩
  · unfold readE
    rw [if_neg h0]
    simp only [if_neg h0] at hop
    generalize sumS N A (x.i.toNat, x.cs) = R at *
    generalize spE N A x.i x.cs = er at *
    generalize x.cs.length = cl at *
    generalize x.ca = ca at *
    generalize x.cc = cc at *
    generalize x.i = xi at *
    clear hn hok hcs
    replace hop := Lib.hid hop
    have b1 := new2a w (.slice aN N.length cN) (.slice aA A.length cA) 30
    have b2 := new2b w (.slice aN N.length cN) (.slice aA A.length cA) 30
    have hfa : Fr (w.alloc (.cells #[.slice aN N.length cN, .slice aA A.length cA] 30)) ((w.alloc (.cells #[.slice aN N.length cN, .slice aA A.length cA] 30)).alloc (.cells #[.int .i64 xi, .slice ca cl cc] 42)) := (Fr.refl _).alloc _
    have b3 := new2a (w.alloc (.cells #[.slice aN N.length cN, .slice aA A.length cA] 30)) (.int .i64 xi) (.slice ca cl cc) 42
    have b4 := new2b (w.alloc (.cells #[.slice aN N.length cN, .slice aA A.length cA] 30)) (.int .i64 xi) (.slice ca cl cc) 42
    rw [show (w.alloc (.cells #[.slice aN N.length cN, .slice aA A.length cA] 30)).heap.size = w.heap.size + 1 by simp] at b3 b4
    replace b1 := Lib.hid (hfa.keep b1.1)
    replace b2 := Lib.hid (hfa.keep b2.1)
    replace b3 := Lib.hid b3.1
    replace b4 := Lib.hid b4.1
    have hfb : Fr w _ := ((Fr.refl w).alloc _).trans hfa
    replace hfb := Lib.hid hfb
    have hsB := hfb.out.size
    clear hfa
    have hop1 := hop.out _ hfb.out
    rw [show ((w.alloc (.cells #[.slice aN N.length cN, .slice aA A.length cA] 30)).alloc (.cells #[.int .i64 xi, .slice ca cl cc] 42)).heap.size = w.heap.size + 2 by simp] at hop1
    replace hop1 := Lib.hid hop1
    clear hop
    have hq : (er != 0) = true := by rw [bne_iff_ne]; exact h0
    go_enter Tryz.func14, Tryz.ntmps14
    go_wp2_with fail
    refine hop1.out.mono ?_
    rintro e w1 ⟨rfl, hf1⟩
    have hfd := hfb.out.trans (((Fr.refl _).alloc _).trans hf1)
    go_wp2_with fail
    go_ret2
    exact ⟨fun h => absurd h h0, fun _ => rfl, hfd⟩
end Go.Proofs.YtphjfalibnnohaaGreatDoor
