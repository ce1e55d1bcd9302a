/-
  Contracts and laws for the statements of the law 43 of the seat, QK.
-/
import Derived.Test.YtbpfkmpkadimeaaGreatDoorQF
import Derived.Deep.RegionHeld3
import Derived.Deep.DrawnRows
import Derived.Test.YtbpfkmpkadimeaaGreatDoorQA
import Derived.Test.YtbpfkmpkadimeaaGreatDoorQC
import Derived.Test.YtbpfkmpkadimeaaGreatDoorLaysSort
import Derived.Shelf.SlSortCmp.NoneTotal
import Derived.Maps.OwnIn
import Derived.Stop.RegionWithIn
import Derived.Lib.SliceRun
import Derived.Test.YtbpfkmpkadimeaaGreatDoorQD
import Derived.Test.YtbpfkmpkadimeaaGreatDoorQH

/- spelling.Read, bound. -/
namespace Go.Proofs.YtbpfkmpkadimeaaGreatDoor
open Go.RowKit Go.Lib

theorem new1 (w : World) (x : Value) (t : TypeId) : (w.alloc (.cells #[x] t)).cell? ⟨w.heap.size, 0, none⟩ = some x ∧ (w.alloc (.cells #[x] t)).frozen? ⟨w.heap.size, 0, none⟩ = false := by
  have h := heap_alloc_new w (.cells #[x] t (0, 0))
  exact ⟨by unfold World.cell?; rw [h]; rfl, by unfold World.frozen?; rw [h]; rfl⟩
/-- a slice of one spelling in a block of its own -/
theorem Sps.one (W : World) (x : Sp) (t : TypeId) (h : El W iv x.ca x.cs) : Sps (W.alloc (.cells #[.int .i64 x.i, .slice x.ca x.cs.length x.cc] t)) (some ⟨W.heap.size, 0, none⟩) [x] := by
  refine ⟨.inr ⟨W.heap.size, 0, rfl, by simp, fun i z hz => ?_⟩, fun y hy => ?_⟩
  · cases i with
    | zero =>
      injection hz with hz; subst hz
      exact ⟨(new2a W _ _ t).1, (new2b W _ _ t).1⟩
    | succ i => simp at hz
  · simp at hy; subst hy; exact h.fr ((Fr.refl W).alloc _)
theorem spE_ok {N A : List Sy} {i : Nat} {cs : List Int} (hi : i < N.length) (hl : cs.length = A.length) (h64 : cs.length ≤ 64) (hf : ∀ x, x ∈ cs → fitB x = true) : spE N A i cs = 0 := by
  unfold spE
  rw [if_neg (by omega), if_neg (by rw [hl]; simp)]
  exact rowE_ok (by omega) (by rw [List.any_eq_false]; intro x hx; rw [hf x hx]; simp)
theorem spE_inv {N A : List Sy} {i : Int} {cs : List Int} (h : spE N A i cs = 0) : 0 ≤ i ∧ i < N.length ∧ cs.length = A.length ∧ ∀ x, x ∈ cs → fitB x = true := by
  unfold spE at h
  by_cases h1 : i < 0 ∨ (N.length : Int) ≤ i
  · rw [if_pos h1] at h; omega
  · rw [if_neg h1] at h
    by_cases h2 : cs.length = A.length
    · rw [if_neg (by rw [h2]; simp)] at h
      refine ⟨by omega, by omega, h2, fun x hx => ?_⟩
      unfold rowE at h
      split at h
      · omega
      · split at h
        · omega
        · rename_i h3
          cases hb : fitB x with
          | true => rfl
          | false => exact absurd (List.any_eq_true.2 ⟨x, hx, by rw [hb]; rfl⟩) h3
    · rw [if_pos h2] at h; omega

/-- a row and no error, or an error -/
def RowE (w : World) (xs : List Int) (err : Int) (e : Ending) (w' : World) : Prop :=
  (err = 0 → ∃ g c, e = .returned (.tuple #[.slice (some ⟨g, 0, none⟩) xs.length c, .int .i64 0]) ∧ w.heap.size ≤ g ∧ El w' iv (some ⟨g, 0, none⟩) xs) ∧
  (err ≠ 0 → e = .returned (.tuple #[.slice none 0 0, .int .i64 err])) ∧ Fr w w'
/-- what Read says -/
def readE (N A : List Sy) (i : Int) (cs : List Int) : Int := if spE N A i cs = 0 then rowE (sumS N A (i.toNat, cs)) else spE N A i cs

theorem sumS_length {d : Nat} {N A : List Sy} (hok : NotOk d N A) {i : Nat} (hi : i < N.length) (cs : List Int) : (sumS N A (i, cs)).length = d := by
  obtain ⟨x, hx⟩ : ∃ x, N[i]? = some x := ⟨_, List.getElem?_eq_getElem hi⟩
  unfold sumS
  rw [rowOf_eq hx]
  refine sumL_length d _ _ _ (hok.row x (List.mem_append_left _ (List.mem_of_getElem? hx))) (fun y hy => ?_)
  obtain ⟨z, hz, rfl⟩ := List.mem_map.1 hy
  exact hok.row z (List.mem_append_right _ hz)

set_option maxRecDepth 100000 in
set_option maxHeartbeats 4000000 in
theorem Read_any (d : Nat) (aN aA : Option Addr) (cN cA : Nat) (N A : List Sy) (x : Sp) (w : World) (hn : NotIs w aN aA cA N A) (hok : NotOk d N A) (hd : 1 ≤ d) (hcs : El w iv x.ca x.cs) (hl : x.cs.length ≤ 1000000000) :
    Calls Tryz.prog 23 #[.agg #[.slice aN N.length cN, .slice aA A.length cA], .agg #[.int .i64 x.i, .slice x.ca x.cs.length x.cc]] w (RowE w (sumS N A (x.i.toNat, x.cs)) (readE N A x.i x.cs)) := by
  have hop := fun W (hW : Fr w W) => open_any d aN aA cN cA N A [x] (some ⟨W.heap.size, 0, none⟩) 1 (W.alloc (.cells #[.int .i64 x.i, .slice x.ca x.cs.length x.cc] 50)) (hn.fr (hW.alloc _)) hok (Sps.one W x _ (hcs.fr hW)) (by simp) (by simp; exact hl)
  simp only [spsE, List.length_cons, List.length_nil, Nat.zero_add] at hop
  by_cases h0 : spE N A x.i x.cs = 0
  · obtain ⟨i1, i2, i3, i4⟩ := spE_inv h0
    obtain ⟨xi, hxi⟩ : ∃ xi : Nat, x.i = xi := ⟨x.i.toNat, by omega⟩
    have hsum := fun W (hW : Fr w W) => sum_any d aN aA cN cA N A xi x.cs x.ca x.cc W (hn.fr hW) hok hd (by omega) (hcs.fr hW) i3 i4
    have hRl := sumS_length hok (i := xi) (by omega) x.cs
    have hd12 := hok.d12
    unfold readE
    rw [if_pos h0]
    rw [h0] at hop
    rw [hxi] at hop ⊢
    rw [show ((xi : Int).toNat) = xi by omega]
    clear h0
    generalize sumS N A (xi, x.cs) = R at *
    generalize x.cs.length = cl at *
    generalize x.ca = ca at *
    generalize x.cc = cc at *
    have hck := fun W a c (hW : El W iv a R) => Check_row R a c W hW (by omega)
    obtain ⟨er, her⟩ : ∃ er, er = rowE R := ⟨_, rfl⟩
    rw [← her] at hck ⊢
    replace hop := Lib.hid hop
    replace hsum := Lib.hid hsum
    replace hck := Lib.hid hck
    replace hRl := Lib.hid hRl
    replace her := Lib.hid her
    clear hn hok hcs i1 i2 i3 i4 hxi
    have b1 := new2a w (.slice aN N.length cN) (.slice aA A.length cA) 31
    have b2 := new2b w (.slice aN N.length cN) (.slice aA A.length cA) 31
    have hfa : Fr (w.alloc (.cells #[.slice aN N.length cN, .slice aA A.length cA] 31)) ((w.alloc (.cells #[.slice aN N.length cN, .slice aA A.length cA] 31)).alloc (.cells #[.int .i64 xi, .slice ca cl cc] 50)) := (Fr.refl _).alloc _
    have b3 := new2a (w.alloc (.cells #[.slice aN N.length cN, .slice aA A.length cA] 31)) (.int .i64 xi) (.slice ca cl cc) 50
    have b4 := new2b (w.alloc (.cells #[.slice aN N.length cN, .slice aA A.length cA] 31)) (.int .i64 xi) (.slice ca cl cc) 50
    rw [show (w.alloc (.cells #[.slice aN N.length cN, .slice aA A.length cA] 31)).heap.size = w.heap.size + 1 by simp] at b3 b4
    replace b1 := Lib.hid (hfa.keep b1.1)
    replace b2 := Lib.hid (hfa.keep b2.1)
    replace b3 := Lib.hid b3.1
    replace b4 := Lib.hid b4.1
    have hfb : Fr w _ := ((Fr.refl w).alloc _).trans hfa
    replace hfb := Lib.hid hfb
    have hsB := hfb.out.size
    clear hfa
    have hop1 := hop.out _ hfb.out
    rw [show ((w.alloc (.cells #[.slice aN N.length cN, .slice aA A.length cA] 31)).alloc (.cells #[.int .i64 xi, .slice ca cl cc] 50)).heap.size = w.heap.size + 2 by simp] at hop1
    simp only [if_true] at hop1
    replace hop1 := Lib.hid hop1
    clear hop
    by_cases h1 : er = 0
    · subst h1
      go_enter Tryz.func23, Tryz.ntmps23
      go_wp2_with fail
      refine hop1.out.mono ?_
      rintro e w1 ⟨rfl, hf1⟩
      have hfc := ((Fr.refl _).alloc _).trans hf1
      have c1 := hfc.keep b1.out
      have c2 := hfc.keep b2.out
      have c3 := hfc.keep b3.out
      have c4 := hfc.keep b4.out
      have hfd := hfb.out.trans hfc
      clear hfc hf1
      go_wp2_with fail
      refine (hsum.out _ hfd).mono ?_
      rintro e w2 ⟨g, c, rfl, hg, hel, hf2⟩
      have hgw := Nat.le_trans hfd.size hg
      replace hel := Lib.hid hel
      rw [hRl.out]
      go_wp2_with fail
      have hck1 := hck.out _ _ c hel.out
      rw [hRl.out] at hck1
      refine hck1.mono ?_
      clear hck1
      rintro e w3 ⟨rfl, hf3⟩
      go_wp2_with fail
      go_ret2
      exact ⟨fun _ => ⟨g, c, by rw [hRl.out]; rfl, hgw, hel.out.fr hf3⟩, fun h => absurd rfl h, hfd.trans (hf2.trans hf3)⟩
    · have hq : (er != 0) = true := by rw [bne_iff_ne]; exact h1
      go_enter Tryz.func23, Tryz.ntmps23
      go_wp2_with fail
      refine hop1.out.mono ?_
      rintro e w1 ⟨rfl, hf1⟩
      have hfc := ((Fr.refl _).alloc _).trans hf1
      have c1 := hfc.keep b1.out
      have c2 := hfc.keep b2.out
      have c3 := hfc.keep b3.out
      have c4 := hfc.keep b4.out
      have hfd := hfb.out.trans hfc
      clear hfc hf1
      go_wp2_with fail
      refine (hsum.out _ hfd).mono ?_
      rintro e w2 ⟨g, c, rfl, hg, hel, hf2⟩
      replace hel := Lib.hid hel
      rw [hRl.out]
      go_wp2_with fail
      have hck1 := hck.out _ _ c hel.out
      rw [hRl.out] at hck1
      refine hck1.mono ?_
      clear hck1
      rintro e w3 ⟨rfl, hf3⟩
      go_wp2_with fail
      go_ret2
      exact ⟨fun h => absurd h h1, fun _ => rfl, hfd.trans (hf2.trans hf3)⟩
  · unfold readE
    rw [if_neg h0]
    simp only [if_neg h0] at hop
    generalize sumS N A (x.i.toNat, x.cs) = R at *
    generalize spE N A x.i x.cs = er at *
    generalize x.cs.length = cl at *
    generalize x.ca = ca at *
    generalize x.cc = cc at *
    generalize x.i = xi at *
    clear hn hok hcs
    replace hop := Lib.hid hop
    have b1 := new2a w (.slice aN N.length cN) (.slice aA A.length cA) 31
    have b2 := new2b w (.slice aN N.length cN) (.slice aA A.length cA) 31
    have hfa : Fr (w.alloc (.cells #[.slice aN N.length cN, .slice aA A.length cA] 31)) ((w.alloc (.cells #[.slice aN N.length cN, .slice aA A.length cA] 31)).alloc (.cells #[.int .i64 xi, .slice ca cl cc] 50)) := (Fr.refl _).alloc _
    have b3 := new2a (w.alloc (.cells #[.slice aN N.length cN, .slice aA A.length cA] 31)) (.int .i64 xi) (.slice ca cl cc) 50
    have b4 := new2b (w.alloc (.cells #[.slice aN N.length cN, .slice aA A.length cA] 31)) (.int .i64 xi) (.slice ca cl cc) 50
    rw [show (w.alloc (.cells #[.slice aN N.length cN, .slice aA A.length cA] 31)).heap.size = w.heap.size + 1 by simp] at b3 b4
    replace b1 := Lib.hid (hfa.keep b1.1)
    replace b2 := Lib.hid (hfa.keep b2.1)
    replace b3 := Lib.hid b3.1
    replace b4 := Lib.hid b4.1
    have hfb : Fr w _ := ((Fr.refl w).alloc _).trans hfa
    replace hfb := Lib.hid hfb
    have hsB := hfb.out.size
    clear hfa
    have hop1 := hop.out _ hfb.out
    rw [show ((w.alloc (.cells #[.slice aN N.length cN, .slice aA A.length cA] 31)).alloc (.cells #[.int .i64 xi, .slice ca cl cc] 50)).heap.size = w.heap.size + 2 by simp] at hop1
    replace hop1 := Lib.hid hop1
    clear hop
    have hq : (er != 0) = true := by rw [bne_iff_ne]; exact h0
    go_enter Tryz.func23, Tryz.ntmps23
    go_wp2_with fail
    refine hop1.out.mono ?_
    rintro e w1 ⟨rfl, hf1⟩
    have hfd := hfb.out.trans (((Fr.refl _).alloc _).trans hf1)
    go_wp2_with fail
    go_ret2
    exact ⟨fun h => absurd h h0, fun _ => rfl, hfd⟩
end Go.Proofs.YtbpfkmpkadimeaaGreatDoor

/- spelling.bound. -/
namespace Go.Proofs.YtbpfkmpkadimeaaGreatDoor
open Go.RowKit Go.Lib

/-- the error of a bound: behind k of the accidentals -/
def bdE (tot most : Int) : Nat → Int
  | 0 => 0
  | k + 1 => if 20000 < most then 4 else if 20000 < tot * (2 * most + 1) then 4 else bdE (tot * (2 * most + 1)) most k
def boundE (n a : Nat) (most : Int) : Int := if most < 0 then 3 else bdE n most a

set_option maxRecDepth 100000 in
set_option maxHeartbeats 1000000 in
theorem bound_any (aN aA : Option Addr) (cN cA n a : Nat) (most : Int) (w : World) (hn : n ≤ 20000) (ha : a ≤ 1000000) :
    Calls Tryz.prog 65 #[.agg #[.slice aN n cN, .slice aA a cA], .int .i64 most] w fun e w' => e = .returned (.int .i64 (boundE n a most)) ∧ Fr w w' := by
  have hf2 : Fr w (w.alloc (.cells #[.slice aN n cN, .slice aA a cA] 31)) := (Fr.refl w).alloc _
  replace hf2 := Lib.hid hf2
  by_cases h0 : most < 0
  · have hfin := Lib.hid (show boundE n a most = 3 by unfold boundE; rw [if_pos h0])
    go_enter Tryz.func65, Tryz.ntmps65
    go_wp2_with fail
    go_ret
    exact ⟨ret_int hfin.out.symm, hf2.out⟩
  · have hfin := Lib.hid (show boundE n a most = bdE n most a by unfold boundE; rw [if_neg h0])
    have d0 : decide (most < 0) = false := decide_eq_false h0
    have h0' : 0 ≤ most := by omega
    clear h0
    go_enter Tryz.func65, Tryz.ntmps65
    go_wp2_with fail
    go_loopg [5, 14] a (fun k s5 s14 wr => ∃ (j : Nat) (tot : Int), s14 = .int .i64 j ∧ j + k = a ∧ s5 = .int .i64 tot ∧ 0 ≤ tot ∧ tot ≤ 20000 ∧ Hid (bdE n most a = bdE tot most k) ∧ wr = w.alloc (.cells #[.slice aN n cN, .slice aA a cA] 31))
    case atStart => exact ⟨0, n, rfl, by omega, rfl, by omega, by omega, rfl, rfl⟩
    case round =>
      obtain ⟨j, tot, rfl, hjk, rfl, ht0, ht1, he, rfl⟩ := hrel
      by_cases hj : j < a
      · have hdJ : decide (j < a) = true := decide_eq_true hj
        obtain ⟨k1, rfl⟩ : ∃ k1, gk = k1 + 1 := ⟨gk - 1, by omega⟩
        by_cases hm : 20000 < most
        · have dm : decide (20000 < most) = true := decide_eq_true hm
          have hf := Lib.hid (show bdE n most a = 4 by rw [he.out, bdE, if_pos hm])
          clear he
          go_wp2_with fail
          go_ret
          exact ⟨ret_int (by rw [hfin.out, hf.out]), hf2.out⟩
        · have dm : decide (20000 < most) = false := decide_eq_false hm
          have hm' : most ≤ 20000 := by omega
          have hp0 : 0 ≤ tot * (2 * most + 1) := Int.mul_nonneg ht0 (by omega)
          have hp1 : tot * (2 * most + 1) ≤ 20000 * 40001 := Int.mul_le_mul ht1 (by omega) (by omega) (by omega)
          have he2 := Lib.hid (show bdE n most a = if 20000 < tot * (2 * most + 1) then 4 else bdE (tot * (2 * most + 1)) most k1 by rw [he.out, bdE, if_neg hm])
          clear he hm
          by_cases hq : 20000 < tot * (2 * most + 1)
          · have dq : decide (20000 < tot * (2 * most + 1)) = true := decide_eq_true hq
            have hf := Lib.hid (show bdE n most a = 4 by rw [he2.out, if_pos hq])
            clear he2
            go_wp2_with fail
            go_ret
            exact ⟨ret_int (by rw [hfin.out, hf.out]), hf2.out⟩
          · have dq : decide (20000 < tot * (2 * most + 1)) = false := decide_eq_false hq
            have hf := Lib.hid (show bdE n most a = bdE (tot * (2 * most + 1)) most k1 by rw [he2.out, if_neg hq])
            clear he2
            go_wp2_with fail
            go_roundg k1
            case measure => omega
            case rel => exact ⟨j + 1, _, by go_num, by omega, rfl, hp0, by omega, hf, rfl⟩
      · obtain rfl : j = a := by omega
        have hdJ : decide (j < j) = false := decide_eq_false (by omega)
        obtain rfl : gk = 0 := by omega
        have hf := Lib.hid (show bdE n most j = 0 by rw [he.out, bdE])
        clear he
        go_wp2_with fail
        go_ret
        exact ⟨ret_int (by rw [hfin.out, hf.out]), hf2.out⟩

/-- a bound that is kept bounds the number of spellings -/
theorem bdE_size {most : Nat} : ∀ (a : Nat) (tot : Nat), tot ≤ 20000 → bdE tot most a = 0 → tot * (2 * most + 1) ^ a ≤ 20000
  | 0, tot, h, _ => by simpa using h
  | a + 1, tot, _, h => by
    rw [bdE] at h
    split at h
    · omega
    · split at h
      · omega
      · rename_i h1 h2
        have e : ((tot : Int) * (2 * most + 1)) = ((tot * (2 * most + 1) : Nat) : Int) := by simp
        rw [e] at h h2
        have := bdE_size a (tot * (2 * most + 1)) (by omega) h
        rw [Nat.pow_succ, Nat.mul_comm ((2 * most + 1) ^ a), ← Nat.mul_assoc]
        exact this
end Go.Proofs.YtbpfkmpkadimeaaGreatDoor

/- spelling.complexity, order. -/
namespace Go.Proofs.YtbpfkmpkadimeaaGreatDoor
open Go.RowKit Go.Lib

/-- draws and new blocks alone -/
def Gd (w w' : World) : Prop := ∃ q os, w' = Go.Sort.grow (w.drewN q) os
theorem Gd.refl (w : World) : Gd w w := ⟨0, #[], by rw [Go.Sort.grow_empty]; rfl⟩
theorem Gd.drewN {a b : World} (h : Gd a b) (n : Nat) : Gd a (b.drewN n) := by
  obtain ⟨q, os, rfl⟩ := h
  exact ⟨q + n, os, by simp [World.drewN, Go.Sort.grow, Nat.add_assoc]⟩
theorem Gd.drew {a b : World} (h : Gd a b) : Gd a b.drew := h.drewN 1
theorem Gd.alloc {a b : World} (h : Gd a b) (o : Obj) : Gd a (b.alloc o) := by
  obtain ⟨q, os, rfl⟩ := h
  exact ⟨q, os ++ #[o], by rw [Go.Sort.alloc_eq_grow, Go.Sort.grow_grow]⟩
theorem Gd.trans {a b c : World} (h : Gd a b) (k : Gd b c) : Gd a c := by
  obtain ⟨q, os, rfl⟩ := h
  obtain ⟨q', os', rfl⟩ := k
  exact ⟨q + q', os ++ os', by simp [World.drewN, Go.Sort.grow, Nat.add_assoc, Array.append_assoc]⟩
theorem Gd.fr {a b : World} (h : Gd a b) : Fr a b := by
  obtain ⟨q, os, rfl⟩ := h
  refine show Below a.heap.size a _ from ⟨rfl, rfl, rfl, by simp [World.drewN, Go.Sort.grow], fun k hk => ?_⟩
  show (a.heap ++ os)[k]? = a.heap[k]?
  rw [Array.getElem?_append_left hk]
theorem Gd.of_eq {a b : World} (h : a = b) : Gd a b := h ▸ Gd.refl a
attribute [local go_sem ↓] Go.wp_at_zero Go.wp_at_succ

theorem cx_append (a b : List Int) : cx (a ++ b) = cx a + cx b := by
  induction a with
  | nil => simp [cx]
  | cons x l ih => simp [cx, ih]; omega
theorem cx_take {l : List Int} {j : Nat} {x : Int} (h : l[j]? = some x) : cx (l.take (j + 1)) = cx (l.take j) + (x.natAbs : Int) := by
  rw [take_snoc h, cx_append]; simp [cx]
theorem cx_bound {l : List Int} (h : ∀ x, x ∈ l → fitB x = true) : 0 ≤ cx l ∧ cx l ≤ 1000000000 * l.length := by
  induction l with
  | nil => simp [cx]
  | cons x l ih =>
    have h1 := ih fun y hy => h y (List.mem_cons_of_mem _ hy)
    have h2 := h x (List.mem_cons_self ..)
    unfold fitB at h2
    have h2 := of_decide_eq_true h2
    simp only [cx, List.length_cons]
    omega

set_option maxRecDepth 100000 in
set_option maxHeartbeats 1000000 in
theorem complexity_any (i : Int) (cs : List Int) (a : Option Addr) (cap : Nat) (w : World) (hx : El w iv a cs) (hl : cs.length ≤ 64) (hb : ∀ x, x ∈ cs → fitB x = true) :
    Calls Tryz.prog 139 #[.agg #[.int .i64 i, .slice a cs.length cap]] w fun e w' => e = .returned (.int .i64 (cx cs)) ∧ Gd w w' := by
  obtain ⟨n, hn⟩ : ∃ n, n = cs.length := ⟨_, rfl⟩
  rw [← hn] at hl
  replace hn := Lib.hid hn
  rw [← hn.out]
  replace hx := Lib.hid hx
  replace hb := Lib.hid hb
  go_enter Tryz.func139, Tryz.ntmps139
  go_wp2_with fail
  go_loopg [3, 9] n (fun k s3 s9 wr => ∃ j : Nat, s9 = .int .i64 j ∧ j + k = n ∧ s3 = .int .i64 (cx (cs.take j)) ∧ Gd w wr)
  case atStart => exact ⟨0, rfl, by omega, rfl, (Gd.refl w).alloc _⟩
  case round =>
    obtain ⟨j, rfl, hjk, rfl, hf⟩ := hrel
    by_cases hj : j < n
    · obtain ⟨b, o, x, rfl, hbl, hxj, hc⟩ := (hx.out.fr hf.fr).at (i := j) (by rw [← hn.out]; exact hj)
      have hd : decide (j < n) = true := decide_eq_true hj
      have hs := Lib.hid (cx_take hxj)
      have hbd := cx_bound (l := cs.take j) (fun y hy => hb.out y (List.mem_of_mem_take hy))
      have hfx := hb.out x (List.mem_of_getElem? hxj)
      unfold fitB at hfx
      have hfx := of_decide_eq_true hfx
      have hll : (cs.take j).length = j := by rw [List.length_take, ← hn.out]; omega
      rw [hll] at hbd
      obtain ⟨t, ht⟩ : ∃ t, t = cx (cs.take j) := ⟨_, rfl⟩
      rw [← ht] at hbd hs ⊢
      have hw : -1000000000 ≤ x ∧ x ≤ 1000000000 := by omega
      clear hxj hll
      go_wp2_with fail
      go_roundg (gk - 1)
      case measure => omega
      case rel =>
        refine ⟨j + 1, by go_num, by omega, ?_, hf⟩
        rw [hs.out, ht]; congr 1; omega
    · obtain rfl : j = n := by omega
      have hd : decide (j < j) = false := decide_eq_false hj
      go_wp2_with fail
      go_ret
      refine ⟨?_, hf⟩
      show Ending.returned (.int .i64 (cx (cs.take j))) = _
      rw [List.take_of_length_le (by rw [← hn.out]; exact Nat.le_refl _)]

theorem Compare_int (x y : Int) (w : World) : Calls Tryz.prog 138 #[.int .i64 x, .int .i64 y] w fun e w' => e = .returned (.int .i64 (Lib.compareInt x y)) ∧ w' = w :=
  Tryz.cmp_Compare_int x y w

set_option maxRecDepth 100000 in
set_option maxHeartbeats 1000000 in
theorem slCompare_any (xs ys : List Int) (a b : Option Addr) (ca cb : Nat) (w : World) (hx : El w iv a xs) (hy : El w iv b ys) (hl : xs.length ≤ 1000000) (hl2 : ys.length ≤ 1000000) :
    Calls Tryz.prog 212 #[.slice a xs.length ca, .slice b ys.length cb] w fun e w' => e = .returned (.int .i64 (cmpR xs ys)) ∧ w' = w := by
  obtain ⟨n, hn⟩ : ∃ n, n = xs.length := ⟨_, rfl⟩
  obtain ⟨m, hm⟩ : ∃ m, m = ys.length := ⟨_, rfl⟩
  rw [← hn] at hl
  rw [← hm] at hl2
  rw [← hn, ← hm]
  replace hn := Lib.hid hn
  replace hm := Lib.hid hm
  replace hx := Lib.hid hx
  replace hy := Lib.hid hy
  go_enter Tryz.func212, Tryz.ntmps212
  go_wp2_with fail
  go_loopg [11] n (fun k s11 wr => ∃ j : Nat, s11 = .int .i64 j ∧ j + k = n ∧ j ≤ m ∧ Hid (cmpR xs ys = cmpR (xs.drop j) (ys.drop j)) ∧ w = wr)
  case atStart => exact ⟨0, rfl, by omega, by omega, rfl, rfl⟩
  case round =>
    obtain ⟨j, rfl, hjk, hjm, hcj, rfl⟩ := hrel
    by_cases hj : j < n
    · have hd : decide (j < n) = true := decide_eq_true hj
      obtain ⟨b1, o1, x, rfl, hbl, hxj, hc⟩ := hx.out.at (i := j) (by rw [← hn.out]; exact hj)
      have z1 : (j : Int) < (n : Int) := by omega
      have z2 : (0 : Int) ≤ (j : Int) := by omega
      have hdx := List.drop_eq_getElem_cons (l := xs) (i := j) (by rw [← hn.out]; exact hj)
      rw [(List.getElem?_eq_some_iff.1 hxj).2] at hdx
      replace hdx := Lib.hid hdx
      clear hxj
      by_cases hj2 : j < m
      · have hd2 : decide (m ≤ j) = false := decide_eq_false (by omega)
        obtain ⟨b2, o2, y, rfl, hbl2, hyj, hc2⟩ := hy.out.at (i := j) (by rw [← hm.out]; exact hj2)
        have hdy := List.drop_eq_getElem_cons (l := ys) (i := j) (by rw [← hm.out]; exact hj2)
        rw [(List.getElem?_eq_some_iff.1 hyj).2] at hdy
        replace hdy := Lib.hid hdy
        clear hyj
        have z3 : (j : Int) < (m : Int) := by omega
        have hst := hcj.out
        rw [hdx.out, hdy.out, cmpR] at hst
        replace hst := Lib.hid hst
        clear hcj
        go_wp2_with fail
        refine (Compare_int x y _).mono ?_
        rintro e w' ⟨rfl, rfl⟩
        generalize Lib.compareInt x y = c at *
        by_cases hc0 : c = 0
        · subst hc0
          go_wp2_with fail
          go_roundg (gk - 1)
          case measure => omega
          case rel => exact ⟨j + 1, by go_num, by omega, by omega, Lib.hid (by rw [hst.out]; rfl), rfl⟩
        · have hcb : (c == 0) = false := beq_false_of_ne hc0
          go_wp2_with fail
          go_ret
          refine ⟨?_, rfl⟩
          rw [hst.out, if_neg hc0]; rfl
      · obtain rfl : j = m := by omega
        have hd2 : decide (j ≤ j) = true := by simp
        go_wp2_with fail
        go_ret
        refine ⟨?_, rfl⟩
        rw [hcj.out, hdx.out, List.drop_of_length_le (l := ys) (by rw [← hm.out]; exact Nat.le_refl _)]; rfl
    · obtain rfl : j = n := by omega
      have hd : decide (j < j) = false := decide_eq_false hj
      have hdx : xs.drop j = [] := List.drop_of_length_le (by rw [← hn.out]; exact Nat.le_refl _)
      by_cases hjm2 : j < m
      · have hd2 : decide (j < m) = true := decide_eq_true hjm2
        go_wp2_with fail
        go_ret
        refine ⟨?_, rfl⟩
        rw [hcj.out, hdx, List.drop_eq_getElem_cons (l := ys) (i := j) (by rw [← hm.out]; exact hjm2)]; rfl
      · have hd2 : decide (j < m) = false := decide_eq_false hjm2
        go_wp2_with fail
        go_ret
        refine ⟨?_, rfl⟩
        rw [hcj.out, hdx, List.drop_of_length_le (l := ys) (by rw [← hm.out]; omega)]; rfl
end Go.Proofs.YtbpfkmpkadimeaaGreatDoor

/- cmp.Or, row.Compare, spelling.order. -/
namespace Go.Proofs.YtbpfkmpkadimeaaGreatDoor
open Go.RowKit Go.Lib
attribute [local go_sem ↓] Go.wp_at_zero Go.wp_at_succ

theorem rowCompare_any (xs ys : List Int) (a b : Option Addr) (ca cb : Nat) (w : World) (hx : El w iv a xs) (hy : El w iv b ys) (hl : xs.length ≤ 1000000) (hl2 : ys.length ≤ 1000000) :
    Calls Tryz.prog 140 #[.slice a xs.length ca, .slice b ys.length cb] w fun e w' => e = .returned (.int .i64 (cmpR xs ys)) ∧ w = w' := by
  have h := slCompare_any xs ys a b ca cb w hx hy hl hl2
  generalize cmpR xs ys = c at *
  generalize xs.length = n at *
  generalize ys.length = m at *
  clear hx hy
  go_enter Tryz.func140, Tryz.ntmps140
  go_wp2_with fail
  refine h.mono ?_
  rintro e w' ⟨rfl, rfl⟩
  go_wp2_with fail
  go_ret
  exact ⟨rfl, rfl⟩

set_option maxRecDepth 100000 in
set_option maxHeartbeats 1000000 in
theorem Or_any (xs : List Int) (a : Option Addr) (cap : Nat) (w : World) (hx : El w iv a xs) (hl : xs.length ≤ 1000000) :
    Calls Tryz.prog 137 #[.slice a xs.length cap] w fun e w' => e = .returned (.int .i64 (orL xs)) ∧ w' = w := by
  obtain ⟨n, hn⟩ : ∃ n, n = xs.length := ⟨_, rfl⟩
  rw [← hn] at hl
  rw [← hn]
  replace hn := Lib.hid hn
  replace hx := Lib.hid hx
  go_enter Tryz.func137, Tryz.ntmps137
  go_wp2_with fail
  go_loopg [8] n (fun k s8 wr => ∃ j : Nat, s8 = .int .i64 j ∧ j + k = n ∧ Hid (orL xs = orL (xs.drop j)) ∧ w = wr)
  case atStart => exact ⟨0, rfl, by omega, rfl, rfl⟩
  case round =>
    obtain ⟨j, rfl, hjk, hcj, rfl⟩ := hrel
    by_cases hj : j < n
    · have hd : decide (j < n) = true := decide_eq_true hj
      obtain ⟨b1, o1, x, rfl, hbl, hxj, hc⟩ := hx.out.at (i := j) (by rw [← hn.out]; exact hj)
      have z1 : (j : Int) < (n : Int) := by omega
      have z2 : (0 : Int) ≤ (j : Int) := by omega
      have hdx := List.drop_eq_getElem_cons (l := xs) (i := j) (by rw [← hn.out]; exact hj)
      rw [(List.getElem?_eq_some_iff.1 hxj).2] at hdx
      have hst := hcj.out
      rw [hdx, orL] at hst
      replace hst := Lib.hid hst
      clear hxj hdx hcj
      by_cases h0 : x = 0
      · subst h0
        go_wp2_with fail
        go_roundg (gk - 1)
        case measure => omega
        case rel => exact ⟨j + 1, by go_num, by omega, Lib.hid (by rw [hst.out]; rfl), rfl⟩
      · have hcb : (x == 0) = false := beq_false_of_ne h0
        go_wp2_with fail
        go_ret
        refine ⟨?_, rfl⟩
        rw [hst.out, if_neg h0]; rfl
    · obtain rfl : j = n := by omega
      have hd : decide (j < j) = false := decide_eq_false hj
      go_wp2_with fail
      go_ret
      refine ⟨?_, rfl⟩
      rw [hcj.out, List.drop_of_length_le (by rw [← hn.out]; exact Nat.le_refl _)]; rfl

theorem Or3 (x y z : Int) (W : World) : Calls Tryz.prog 137 #[.slice (some ⟨W.heap.size, 0, none⟩) 3 3] (W.alloc (.cells #[.int .i64 x, .int .i64 y, .int .i64 z] 3)) fun e w' => e = .returned (.int .i64 (orL [x, y, z])) ∧ (W.alloc (.cells #[.int .i64 x, .int .i64 y, .int .i64 z] 3)) = w' := by
  refine (Or_any [x, y, z] (some ⟨W.heap.size, 0, none⟩) 3 _ (.inr ⟨W.heap.size, 0, rfl, by simp, fun i u hu => ?_⟩) (by simp)).mono fun e w' h => ⟨h.1, h.2.symm⟩
  have h := heap_alloc_new W (.cells #[.int .i64 x, .int .i64 y, .int .i64 z] 3 (0, 0))
  unfold World.cell?
  rw [h]
  match i, hu with
  | 0, hu => simp at hu; subst hu; rfl
  | 1, hu => simp at hu; subst hu; rfl
  | 2, hu => simp at hu; subst hu; rfl
  | i + 3, hu => simp at hu
set_option maxRecDepth 100000 in
set_option maxHeartbeats 4000000 in
theorem order_any (s t : Int × List Int) (a b : Option Addr) (ca cb : Nat) (w : World) (hx : El w iv a s.2) (hy : El w iv b t.2) (hl : s.2.length ≤ 64) (hl2 : t.2.length ≤ 64) (hb : ∀ x, x ∈ s.2 → fitB x = true) (hb2 : ∀ x, x ∈ t.2 → fitB x = true) :
    Calls Tryz.prog 69 #[.agg #[.int .i64 s.1, .slice a s.2.length ca], .agg #[.int .i64 t.1, .slice b t.2.length cb]] w fun e w' => e = .returned (.int .i64 (ordS s t)) ∧ Gd w w' := by
  obtain ⟨i, xs⟩ := s
  obtain ⟨j, ys⟩ := t
  simp only at hx hy hl hl2 hb hb2 ⊢
  unfold ordS
  have k1 := fun W (hW : Fr w W) => complexity_any i xs a ca W (hx.fr hW) hl hb
  have k2 := fun W (hW : Fr w W) => complexity_any j ys b cb W (hy.fr hW) hl2 hb2
  have k3 := fun W (hW : Fr w W) => rowCompare_any xs ys a b ca cb W (hx.fr hW) (hy.fr hW) (by omega) (by omega)
  generalize cx xs = cxs at *
  generalize cx ys = cys at *
  generalize cmpR xs ys = c3 at *
  generalize xs.length = n at *
  generalize ys.length = m at *
  replace k1 := Lib.hid k1
  replace k2 := Lib.hid k2
  replace k3 := Lib.hid k3
  clear hx hy hb hb2
  go_enter Tryz.func69, Tryz.ntmps69
  go_wp2_with fail
  have g0 : Gd w ((w.alloc (.cells #[.int .i64 i, .slice a n ca] 50)).alloc (.cells #[.int .i64 j, .slice b m cb] 50)) := ((Gd.refl w).alloc _).alloc _
  have f0 : Fr w ((w.alloc (.cells #[.int .i64 i, .slice a n ca] 50)).alloc (.cells #[.int .i64 j, .slice b m cb] 50)) := ((Fr.refl w).alloc _).alloc _
  have p1 := new2a w (.int .i64 i) (.slice a n ca) 50
  have p2 := new2b w (.int .i64 i) (.slice a n ca) 50
  have p3 := new2a (w.alloc (.cells #[.int .i64 i, .slice a n ca] 50)) (.int .i64 j) (.slice b m cb) 50
  have p4 := new2b (w.alloc (.cells #[.int .i64 i, .slice a n ca] 50)) (.int .i64 j) (.slice b m cb) 50
  rw [show (w.alloc (.cells #[.int .i64 i, .slice a n ca] 50)).heap.size = w.heap.size + 1 by simp] at p3 p4
  have q1 := (Fr.refl (w.alloc (.cells #[.int .i64 i, .slice a n ca] 50))).alloc (.cells #[.int .i64 j, .slice b m cb] 50) |>.keep p1.1
  have q2 := (Fr.refl (w.alloc (.cells #[.int .i64 i, .slice a n ca] 50))).alloc (.cells #[.int .i64 j, .slice b m cb] 50) |>.keep p2.1
  have q3 := p3.1
  have q4 := p4.1
  clear p1 p2 p3 p4
  generalize ((w.alloc (.cells #[.int .i64 i, .slice a n ca] 50)).alloc (.cells #[.int .i64 j, .slice b m cb] 50)) = W at *
  have g0 : Gd w W := by assumption
  have hbs : w.heap.size + 1 < W.heap.size := World.block_lt_of_cell? W _ q3
  clear f0
  go_region_held3 (fun w' => w'.cell? ⟨w.heap.size, 0, none⟩ = some (.int .i64 i) ∧ w'.cell? ⟨w.heap.size, 1, none⟩ = some (.slice a n ca) ∧ w'.cell? ⟨w.heap.size + 1, 0, none⟩ = some (.int .i64 j) ∧ w'.cell? ⟨w.heap.size + 1, 1, none⟩ = some (.slice b m cb))
    (first | go_keep | (go_split_ands; refine ⟨?_, ?_, ?_, ?_⟩ <;> (refine Fr.keep (Gd.fr (by assumption)) ?_; assumption)))
    (first
      | (go_at_call 139; first | ((with_reducible refine (k1.out _ ?_).mono ?_); (refine Gd.fr ?_; repeat (with_reducible first | assumption | exact Gd.refl _ | refine Gd.drew ?_ | refine Gd.drewN ?_ _ | refine Gd.alloc ?_ _ | refine Gd.trans ?_ (by assumption))); rintro e w1 ⟨rfl, hf1⟩) | ((with_reducible refine (k2.out _ ?_).mono ?_); (refine Gd.fr ?_; repeat (with_reducible first | assumption | exact Gd.refl _ | refine Gd.drew ?_ | refine Gd.drewN ?_ _ | refine Gd.alloc ?_ _ | refine Gd.trans ?_ (by assumption))); rintro e w1 ⟨rfl, hf1⟩))
      | (go_at_call 140; (with_reducible refine (k3.out _ ?_).mono ?_); (refine Gd.fr ?_; repeat (with_reducible first | assumption | exact Gd.refl _ | refine Gd.drew ?_ | refine Gd.drewN ?_ _ | refine Gd.alloc ?_ _ | refine Gd.trans ?_ (by assumption))); rintro e w1 ⟨rfl, rfl⟩)
      | (go_at_call 138; (with_reducible refine (Compare_int _ _ _).mono ?_); rintro e w1 ⟨rfl, rfl⟩)
      | (go_at_call 137; (with_reducible refine (Or3 _ _ _ _).mono ?_); rintro e w1 ⟨rfl, rfl⟩))
  all_goals
    go_wp2_with fail
    go_ret
    exact ⟨rfl, by repeat (with_reducible first | assumption | exact Gd.refl _ | refine Gd.drew ?_ | refine Gd.drewN ?_ _ | refine Gd.alloc ?_ _ | refine Gd.trans ?_ (by assumption))⟩
end Go.Proofs.YtbpfkmpkadimeaaGreatDoor

/- slices.SortFunc of spellings by spelling.order. -/
namespace Go.Proofs.YtbpfkmpkadimeaaGreatDoor
open Go.RowKit Go.Lib Go.Sort

theorem flatK_flat2 {α : Type} [Inhabited α] (f : α → Value × Value) (d : Array α) : (flatK (fun x => [(f x).1, (f x).2]) 2 d).toList = flat2 (d.toList.map f) := by
  apply List.ext_getElem?
  intro t
  rw [Array.getElem?_toList]
  by_cases ht : t < d.size * 2
  · have hi : t / 2 < d.size := by omega
    have h1 : (flatK (fun x => [(f x).1, (f x).2]) 2 d)[t]? = some (([(f d[t / 2]!).1, (f d[t / 2]!).2])[t % 2]!) := by
      have h2 := get_flatK (fun x => [(f x).1, (f x).2]) 2 d t ht
      rw [← h2]
      have hs : t < (flatK (fun x => [(f x).1, (f x).2]) 2 d).size := by rw [size_flatK]; exact ht
      rw [Array.getElem?_eq_getElem hs, getElem!_pos _ t hs]
    rw [h1]
    have hx : (d.toList.map f)[t / 2]? = some (f d[t / 2]!) := by
      rw [List.getElem?_map, Array.getElem?_toList, Array.getElem?_eq_getElem hi, getElem!_pos d _ hi]; rfl
    obtain ⟨g1, g2⟩ := flat2_get _ _ _ hx
    rcases Nat.mod_two_eq_zero_or_one t with h | h
    · rw [h, show t = t / 2 * 2 by omega, g1, show t / 2 * 2 / 2 = t / 2 by omega]; rfl
    · rw [h, show t = t / 2 * 2 + 1 by omega, g2, show (t / 2 * 2 + 1) / 2 = t / 2 by omega]; rfl
  · rw [Array.getElem?_eq_none (by rw [size_flatK]; omega), List.getElem?_eq_none (by rw [flat2_length, List.length_map]; simp; omega)]

theorem heap_put {w : World} {g n : Nat} {os : Array Obj} {cur : Array Value} {e : TypeId} {fr : Nat × Nat} (d : Array Value) (hb : w.heap[g]? = some (.cells cur e fr)) :
    (grow (putRow id (Sort.ahead w n) g 0 d) os).heap[g]? = some (.cells (putCells id 0 d cur) e fr) := by
  have hg : g < w.heap.size := (Array.getElem?_eq_some_iff.1 hb).1
  rw [heap_grow_old _ _ (by simpa using hg)]
  simp [putRow, mapBlock, Sort.ahead, Array.getElem?_modify, hb, onCells]
theorem fx_put {w : World} {g n : Nat} {os : Array Obj} (d : Array Value) : Fx (· = g) w (grow (putRow id (Sort.ahead w n) g 0 d) os) := by
  refine ⟨rfl, rfl, rfl, by simp, fun k hk hne => ?_⟩
  rw [heap_grow_old _ _ (by simpa using hk)]
  have : g ≠ k := fun e => hne e.symm
  simp [putRow, mapBlock, Sort.ahead, Array.getElem?_modify, this]
theorem take_put (cur F : Array Value) (h : F.size ≤ cur.size) : (putCells id 0 F cur).toList.take F.size = F.toList := by
  apply List.ext_getElem?
  intro j
  by_cases hj : j < F.size
  · rw [List.getElem?_take_of_lt hj, Array.getElem?_toList, Array.getElem?_toList]
    simp [putCells, hj, show j < cur.size by omega]
  · rw [List.getElem?_take_eq_none (by omega), Array.getElem?_toList, Array.getElem?_eq_none (by omega)]
theorem ownsRow_put {w : World} {base g cap n m size : Nat} {e : TypeId} {os : Array Obj} {xs ys : List Value} (h : w.ownsRow base e size (.slice (some ⟨g, 0, none⟩) m cap) m xs) (hl : ys.length = xs.length) :
    (grow (putRow id (Sort.ahead w n) g 0 ys.toArray) os).ownsRow base e size (.slice (some ⟨g, 0, none⟩) m cap) m ys := by
  obtain ⟨h1, h2⟩ := h
  rcases h2 with ⟨h2, _⟩ | ⟨g', cap', cur, hv, hg, hh, hn, hc, hs, ht⟩
  · cases h2
  · injection hv with hv1 hv2 hv3
    injection hv1 with hv1; injection hv1 with hv1
    subst hv1; subst hv3
    have hsz : ys.toArray.size ≤ cur.size := by
      rw [List.size_toArray, hl, h1, hs]; exact Nat.mul_le_mul_right _ hn
    refine ⟨by rw [hl, h1], .inr ⟨g, cap, _, rfl, hg, heap_put _ hh, hn, hc, by simp [putCells, hs], ?_⟩⟩
    have := take_put cur ys.toArray hsz
    rw [List.size_toArray, hl, h1] at this
    exact this

def BX.enc2 (x : BX) : Value × Value := (.int .i64 x.i, .slice (some ⟨x.g, 0, none⟩) x.cs.length x.c)
theorem BX.one (l : List BX) : ∀ z, z ∈ l.map BX.enc2 → z.1.oneCell' = true ∧ z.2.oneCell' = true := fun z hz => by
  obtain ⟨x, -, rfl⟩ := List.mem_map.1 hz
  exact ⟨rfl, rfl⟩
def cfB (x y : BX) : Int := ordS (stI (stripX x)) (stI (stripX y))

theorem enters_order : ∀ args w, (callFunc 69 args).run Tryz.prog w = .ok (.enter 69 args) w := enters_of Tryz.func69 (by kernel_rfl) rfl

set_option maxRecDepth 100000 in
set_option maxHeartbeats 1000000 in
theorem SortFunc_sp (base g cap : Nat) (K : List BX) (W : World) (hown : W.ownsRow base 50 2 (.slice (some ⟨g, 0, none⟩) K.length cap) K.length (flat2 (K.map BX.enc2))) (hrow : ∀ x, x ∈ K → RowAt W x) (hnd : (K.map stripX).Nodup)
    (hl : ∀ x, x ∈ K → x.cs.length ≤ 64) (hf : ∀ x, x ∈ K → ∀ c, c ∈ x.cs → fitB c = true) (hK : K ≠ []) (hK2 : K.length ≤ 1000001) :
    Calls Tryz.prog 135 #[.slice (some ⟨g, 0, none⟩) K.length cap, .func (.func 69) #[] #[]] W fun e W' => e = .returned (.tuple #[]) ∧
      ∃ K' : List BX, K'.map stripX = sortS (K.map stripX) ∧ K'.Perm K ∧ Fx (· = g) W W' ∧ W'.ownsRow base 50 2 (.slice (some ⟨g, 0, none⟩) K.length cap) K.length (flat2 (K'.map BX.enc2)) := by
  obtain ⟨x0, hx0⟩ : ∃ x0, x0 ∈ K := by
    cases K with
    | nil => exact absurd rfl hK
    | cons x l => exact ⟨x, List.mem_cons_self ..⟩
  haveI : Inhabited { x : BX // x ∈ K } := ⟨⟨x0, hx0⟩⟩
  obtain ⟨-, -, hgl, -, hcells⟩ := ownsRow_some hown
  have hfl : ∀ (d : Array { x : BX // x ∈ K }), (flatK (fun x : { x : BX // x ∈ K } => [x.1.enc2.1, x.1.enc2.2]) 2 d).toList = flat2 (d.toList.map fun x => x.1.enc2) := fun d => flatK_flat2 (fun x : { x : BX // x ∈ K } => x.1.enc2) d
  have hat : (K.attach.toArray.toList.map fun x => x.1.enc2) = K.map BX.enc2 := by
    have : (fun x : { x : BX // x ∈ K } => x.1.enc2) = BX.enc2 ∘ Subtype.val := rfl
    rw [this, ← List.map_map, List.attach_map_subtype_val]
  have hH : HoldsK (fun x : { x : BX // x ∈ K } => [x.1.enc2.1, x.1.enc2.2]) 2 W g 0 K.attach.toArray := by
    intro j hj
    have h1 := hfl K.attach.toArray
    rw [hat] at h1
    have h2 : (flat2 (K.map BX.enc2))[j]? = some (flatK (fun x : { x : BX // x ∈ K } => [x.1.enc2.1, x.1.enc2.2]) 2 K.attach.toArray)[j]! := by
      rw [← h1, Array.getElem?_toList, Array.getElem?_eq_getElem hj, getElem!_pos _ j hj]
    have h3 := hcells j _ h2
    rw [Nat.zero_add]
    exact h3
  have hcmp : CmpLays Tryz.prog 69 #[] (fun x : { x : BX // x ∈ K } => [x.1.enc2.1, x.1.enc2.2]) 2 (fun x y => cfB x.1 y.1) g 0 K.attach.toArray.size W := fun m os dk hs x y => by
    have hfx : Fx (· = g) W (sortWorldK (fun x : { x : BX // x ∈ K } => [x.1.enc2.1, x.1.enc2.2]) 2 W g 0 m dk os) := fx_put _
    have hel : ∀ z : BX, z ∈ K → El (sortWorldK (fun x : { x : BX // x ∈ K } => [x.1.enc2.1, x.1.enc2.2]) 2 W g 0 m dk os) iv (some ⟨z.g, 0, none⟩) z.cs := fun z hz => (hrow z hz).2.fx hfx (fun e => by
      have := (hrow z hz).ne hown
      exact this (by simp [Value.ownBlock, show z.g = g from e]))
    exact order_any (stI (stripX x.1)) (stI (stripX y.1)) (some ⟨x.1.g, 0, none⟩) (some ⟨y.1.g, 0, none⟩) x.1.c y.1.c _ (hel x.1 x.2) (hel y.1 y.2) (hl x.1 x.2) (hl y.1 y.2) (hf x.1 x.2) (hf y.1 y.2)
  have hO : SWO (ltOf fun x y : { x : BX // x ∈ K } => cfB x.1 y.1) := ⟨fun x => swoS.irrefl _, fun x y z => swoS.trans _ _ _, fun x y z => swoS.ntrans _ _ _⟩
  have hinj : ∀ x y : { x : BX // x ∈ K }, stripX x.1 = stripX y.1 → x = y := fun x y e => by
    obtain ⟨x, hx⟩ := x; obtain ⟨y, hy⟩ := y
    obtain ⟨i, hi⟩ := List.getElem?_of_mem hx
    obtain ⟨j, hj⟩ := List.getElem?_of_mem hy
    have e2 : (K.map stripX)[i]? = (K.map stripX)[j]? := by rw [List.getElem?_map, List.getElem?_map, hi, hj]; simp only [Option.map_some]; rw [e]
    have hij := (List.getElem?_inj (by rw [List.length_map]; exact (List.getElem?_eq_some_iff.1 hi).1) hnd).1 e2
    subst hij
    rw [hi] at hj
    injection hj with hj
    subst hj; rfl
  have hT : ∀ x y : { x : BX // x ∈ K }, (ltOf fun x y : { x : BX // x ∈ K } => cfB x.1 y.1) x y = false → (ltOf fun x y : { x : BX // x ∈ K } => cfB x.1 y.1) y x = false → x = y := fun x y h1 h2 => by
    unfold ltOf cfB at *
    have a : ¬ ordS (stI (stripX x.1)) (stI (stripX y.1)) < 0 := of_decide_eq_false h1
    have b : ¬ ordS (stI (stripX y.1)) (stI (stripX x.1)) < 0 := of_decide_eq_false h2
    have c := ordS_neg (stI (stripX x.1)) (stI (stripX y.1))
    exact hinj x y (stI_inj (ordS_eq (by omega)))
  have hcon := AnyQ.slices_SortFunc_total Tryz.sortSp 2 Tryz.isAgg50 Tryz.sizeOf50 (fun x : { x : BX // x ∈ K } => [x.1.enc2.1, x.1.enc2.2]) (fun _ => rfl) (fun x v hv => by
    simp at hv; rcases hv with rfl | rfl <;> rfl) (fun x y => cfB x.1 y.1) hO 69 #[] g 0 cap K.attach.toArray W enters_order hcmp hH hgl (by rw [List.size_toArray, List.length_attach]; omega) hT
  rw [show K.attach.toArray.size = K.length by simp] at hcon
  refine hcon.mono ?_
  rintro e W' ⟨rfl, n, os, rfl⟩
  obtain ⟨D, hD⟩ : ∃ D, D = (K.attach.mergeSort fun x y => !(ltOf fun x y : { x : BX // x ∈ K } => cfB x.1 y.1) y x) := ⟨_, rfl⟩
  have hDp : D.Perm K.attach := by rw [hD]; exact List.mergeSort_perm _ _
  refine ⟨rfl, D.map Subtype.val, ?_, ?_, fx_put _, ?_⟩
  · refine sortS_eq ?_ ?_
    · rw [List.map_map, List.pairwise_map, hD]
      exact List.pairwise_mergeSort (le := fun x y => !(ltOf fun x y : { x : BX // x ∈ K } => cfB x.1 y.1) y x) (fun a b c h k => leS_trans (stripX a.1) (stripX b.1) (stripX c.1) h k) (fun a b => leS_total (stripX a.1) (stripX b.1)) _
    · have := (hDp.map Subtype.val).map stripX
      rwa [List.attach_map_subtype_val] at this
  · have := hDp.map Subtype.val
    rwa [List.attach_map_subtype_val] at this
  · have h1 := hfl D.toArray
    have h2 : D.toArray.toList.map (fun x => x.1.enc2) = (D.map Subtype.val).map BX.enc2 := by rw [List.map_map]; rfl
    rw [h2] at h1
    have h3 := ownsRow_put (n := n) (os := os) (ys := flat2 ((D.map Subtype.val).map BX.enc2)) hown (by rw [flat2_length, flat2_length, List.length_map, List.length_map, List.length_map, hDp.length_eq, List.length_attach])
    rw [← h1] at h3
    simp only [Array.toArray_toList] at h3
    rw [hfl] at h3
    rw [h2] at h3
    rw [hD] at h3 ⊢
    exact h3
end Go.Proofs.YtbpfkmpkadimeaaGreatDoor

/- spelling.all. -/
namespace Go.Proofs.YtbpfkmpkadimeaaGreatDoor
open Go.RowKit Go.Lib Go.Shelf
attribute [local go_sem] Oper.semAt_some

theorem box_any (aN aA : Option Addr) (n cN k cA : Nat) (m : Int) (w : World) :
    Calls Tryz.prog 134 #[.agg #[.slice aN n cN, .slice aA k cA], .int .i64 m] w fun e w' => e = .returned (.func (.func 208) #[] #[.pointer (some ⟨w.heap.size, 0, none⟩), .pointer (some ⟨w.heap.size + 1, 0, none⟩)]) ∧ (w.alloc (.cells #[.slice aN n cN, .slice aA k cA] 31)).alloc (.cells #[.int .i64 m] 3) = w' := by
  go_enter Tryz.func134, Tryz.ntmps134
  go_wp2_with fail
  go_ret
  exact ⟨rfl, rfl⟩

theorem infoSp : (Tryz.prog.info? 50).map (fun i => (i.zero, i.size, i.bytes)) = some (some (.agg #[.int .i64 0, .slice none 0 0]), 2, 32) := by kernel_rfl

/-- those of the row -/
def keepP (N A : List Sy) (R : List Int) (x : BX) : Bool := decide (sumS N A (stripX x) = R)

/-- what all holds between two rounds: W0 is the loop's first world, out's box is block Bo -/
structure AllI (W0 : World) (Bo : Nat) (p : Nat → Prop) (xs : List BX) (W : World) : Prop where
  fx : Fx (· = Bo) W0 W
  pD : ∀ k, p k → W0.heap.size + 2 ≤ k
  out : ∃ v, W.cell? ⟨Bo, 0, none⟩ = some v ∧ W.frozen? ⟨Bo, 0, none⟩ = false ∧ W.ownsRow (W0.heap.size + 2) 50 2 v xs.length (flat2 (xs.map BX.enc2)) ∧ (∀ g, v.ownBlock = some g → ¬ p g ∧ g < W.heap.size) ∧ (xs = [] → v = .slice none 0 0)
  el : ∀ x, x ∈ xs → W0.heap.size + 2 ≤ x.g ∧ ¬ p x.g ∧ RowAt W x

theorem AllI.step {W0 : World} {Bo : Nat} {p p' : Nat → Prop} {xs : List BX} {W W' : World} (h : AllI W0 Bo p xs W) (hBo : Bo < W0.heap.size) (k : Fx (fun k => p k ∨ k = W0.heap.size ∨ k = W0.heap.size + 1) W W') (hp : ∀ k, p' k → p k ∨ (W.heap.size ≤ k ∧ k < W'.heap.size)) (hp2 : ∀ k, p' k → W0.heap.size + 2 ≤ k) : AllI W0 Bo p' xs W' := by
  obtain ⟨v, h1, h2, h3, h4, h5⟩ := h.out
  have hlow : ∀ j, j < W0.heap.size → ¬ (p j ∨ j = W0.heap.size ∨ j = W0.heap.size + 1) := fun j hj e => by
    rcases e with e | e | e
    · have := h.pD j e; omega
    · omega
    · omega
  refine ⟨⟨k.os.trans h.fx.os, k.tape.trans h.fx.tape, k.output.trans h.fx.output, Nat.le_trans h.fx.size k.size, fun j hj hne => (k.block j (Nat.lt_of_lt_of_le hj h.fx.size) (hlow j hj)).trans (h.fx.block j hj hne)⟩, hp2, ⟨v, k.keep h1 (hlow Bo hBo), k.keepf h1 h2 (hlow Bo hBo), ownsRow_fx h3 k (fun g hg e => ?_), fun g hg => ?_, h5⟩, fun x hx => ?_⟩
  · have hb := ownsRow_own_ge h3 g hg
    rcases e with e | e | e
    · exact (h4 g hg).1 e
    · omega
    · omega
  · refine ⟨fun e => ?_, Nat.lt_of_lt_of_le (h4 g hg).2 k.size⟩
    rcases hp g e with e | e
    · exact (h4 g hg).1 e
    · have := (h4 g hg).2; omega
  · obtain ⟨a, c, d⟩ := h.el x hx
    have b := d.lt
    refine ⟨a, fun e => ?_, d.fx k (fun e => ?_)⟩
    · rcases hp _ e with e | e
      · exact c e
      · omega
    · rcases e with e | e | e
      · exact c e
      · omega
      · omega

theorem AllI.push {W0 W w2 w3 : World} {Bo : Nat} {p : Nat → Prop} {K : List BX} {v : Value} {o : Obj} {g9 cap9 : Nat} {x : BX} {news : List Value} (hBo : Bo < W0.heap.size) (x6 : Fx (· = Bo) W0 W) (x5 : ∀ k, p k → W0.heap.size + 2 ≤ k) (x4 : ∀ z, z ∈ K → W0.heap.size + 2 ≤ z.g ∧ ¬ p z.g ∧ RowAt W z)
    (o4 : ∀ g, v.ownBlock = some g → ¬ p g ∧ g < W.heap.size) (hp : ∀ k, p k → k < W.heap.size) (hfZ : Fr W w2) (y6 : w2.ownsRow (W0.heap.size + 2) 50 2 v K.length (flat2 (K.map BX.enc2)))
    (hFx : Fx (fun k => v.ownBlock = some k) (w2.alloc o) w3) (hown : w3.ownsRow (W0.heap.size + 2) 50 2 (.slice (some ⟨g9, 0, none⟩) (K.length + 1) cap9) (K.length + 1) (flat2 (K.map BX.enc2) ++ news)) (hnews : news = flat2 [x.enc2])
    (hat : (Value.slice (some ⟨g9, 0, none⟩) (K.length + 1) cap9).ownBlock = v.ownBlock ∨ (Value.slice (some ⟨g9, 0, none⟩) (K.length + 1) cap9).ownBlock = some (w2.alloc o).heap.size) (u1 : w3.cell? ⟨Bo, 0, none⟩ = some v) (u2 : w3.frozen? ⟨Bo, 0, none⟩ = false)
    (b5 : W0.heap.size + 2 ≤ x.g) (b7 : ¬ p x.g) (b8 : RowAt W x) :
    AllI W0 Bo p (K ++ [x]) (w3.setCell ⟨Bo, 0, none⟩ (.slice (some ⟨g9, 0, none⟩) (K.length + 1) cap9)) ∧ Fx (fun k => v.ownBlock = some k ∨ k = Bo) W (w3.setCell ⟨Bo, 0, none⟩ (.slice (some ⟨g9, 0, none⟩) (K.length + 1) cap9)) := by
  subst hnews
  have hvo : ∀ k, v.ownBlock = some k → W0.heap.size + 2 ≤ k := fun k hk => ownsRow_own_ge y6 k hk
  have hfA : Fr W (w2.alloc o) := hfZ.alloc o
  obtain ⟨-, hg1, hg2, -, -⟩ := ownsRow_some hown
  have hF1 : Fx (fun k => v.ownBlock = some k ∨ k = Bo) W w3 := (Fx.of_fr hfA).trans (hFx.mono fun k e => .inl e)
  have hF2 := hF1.setCell (q := ⟨Bo, 0, none⟩) (.inl (.inr rfl)) (.slice (some ⟨g9, 0, none⟩) (K.length + 1) cap9)
  have hS : Fx (· = Bo) w3 (w3.setCell ⟨Bo, 0, none⟩ (.slice (some ⟨g9, 0, none⟩) (K.length + 1) cap9)) := Fx.setCell (p := (· = Bo)) (q := ⟨Bo, 0, none⟩) (Fx.refl _ w3) (.inl rfl) _
  refine ⟨⟨⟨hF2.os.trans x6.os, hF2.tape.trans x6.tape, hF2.output.trans x6.output, Nat.le_trans x6.size hF2.size, fun j hj hne => (hF2.block j (Nat.lt_of_lt_of_le hj x6.size) (fun e => ?_)).trans (x6.block j hj hne)⟩, x5, ⟨_, World.cell?_setCell_same' _ _ _ (by rw [u1]; rfl), by rw [World.frozen?_setCell]; exact u2, ?_, fun g hg => ?_, fun h => by simp at h⟩, fun z hz => ?_⟩, hF2⟩
  · rcases e with e | e
    · have := hvo j e; omega
    · exact hne e
  · rw [List.map_append, flat2_append, List.length_append]
    exact ownsRow_fx hown hS (fun g hg e => by
      have e : g = Bo := e
      have h2 : g9 = g := by simpa [Value.ownBlock] using hg
      omega)
  · have h2 : g9 = g := by simpa [Value.ownBlock] using hg
    subst h2
    refine ⟨fun e => ?_, Nat.lt_of_lt_of_le hg2 hS.size⟩
    rcases hat with h | h
    · exact (o4 g9 (by rw [← h]; exact hg)).1 e
    · have h3 : g9 = (w2.alloc o).heap.size := by simpa [Value.ownBlock] using h
      have := hp g9 e
      have := hfA.size
      omega
  · have key : ∀ z : BX, W0.heap.size + 2 ≤ z.g → ¬ p z.g → RowAt W z → W0.heap.size + 2 ≤ z.g ∧ ¬ p z.g ∧ RowAt (w3.setCell ⟨Bo, 0, none⟩ (.slice (some ⟨g9, 0, none⟩) (K.length + 1) cap9)) z := fun z h1 h2 h3 => ⟨h1, h2, h3.fx hF2 (fun e => by
      rcases e with e | e
      · exact (h3.fr hfZ).ne y6 e
      · omega)⟩
    rcases List.mem_append.1 hz with h | h
    · obtain ⟨z1, z2, z3⟩ := x4 z h
      exact key z z1 z2 z3
    · simp at h
      subst h
      exact key z b5 b7 b8

theorem cell_two_new (w : World) (x y : Value) (t : TypeId) : ∀ (j : Nat) (u : Value), [x, y][j]? = some u → (w.alloc (.cells #[x, y] t)).cell? ((⟨w.heap.size, 0, none⟩ : Addr).add j) = some u := fun j u hu => by
  match j, hu with
  | 0, hu => simp at hu; subst hu; exact (new2a w x y t).1
  | 1, hu => simp at hu; subst hu; exact (new2b w x y t).1
  | j + 2, hu => simp at hu
theorem new_s (w : World) (a : Option Addr) (n c : Nat) (t : TypeId) : (w.alloc (.cells #[.slice a n c] t)).cell? ⟨w.heap.size, 0, none⟩ = some (.slice a n c) ∧ (w.alloc (.cells #[.slice a n c] t)).frozen? ⟨w.heap.size, 0, none⟩ = false := new1 w _ t

/-- spellings in a row of the call's own -/
structure OwnSp (w : World) (base : Nat) (a : Option Addr) (c : Nat) (xs : List BX) : Prop where
  own : w.ownsRow base 50 2 (.slice a xs.length c) xs.length (flat2 (xs.map BX.enc2))
  el : ∀ x, x ∈ xs → base ≤ x.g ∧ x.g < w.heap.size ∧ (Value.slice a xs.length c).ownBlock ≠ some x.g ∧ El w iv (some ⟨x.g, 0, none⟩) x.cs
def AllRet (w : World) (L : List (Nat × List Int)) (e : Ending) (w' : World) : Prop := ∃ a c xs, e = .returned (.slice a xs.length c) ∧ OwnSp w' w.heap.size a c xs ∧ xs.map stripX = L ∧ Fr w w'

set_option maxRecDepth 100000 in
set_option maxHeartbeats 4000000 in
theorem all_any (d : Nat) (aN aA : Option Addr) (cN cA : Nat) (N A : List Sy) (R : List Int) (ra : Option Addr) (rc m : Nat) (w : World) (hn : NotIs w aN aA cA N A) (hok : NotOk d N A) (hd : 1 ≤ d) (hR : El w iv ra R) (hRl : R.length ≤ 1000000) (hm : m ≤ 20000) (hbox : (boxL m A.length N.length).length ≤ 1000000) :
    Calls Tryz.prog 66 #[.agg #[.slice aN N.length cN, .slice aA A.length cA], .slice ra R.length rc, .int .i64 m] w (AllRet w (sortS ((boxL m A.length N.length).filter fun s => decide (sumS N A s = R)))) := by
  have hn60 := hok.n60
  have ha6 := hok.a6
  obtain ⟨i0, hi, hz0, hz1, hz2⟩ := info_parts infoSp
  refine (callsIn_wide (n := 4)).1 ?_
  refine callsIn_of_wp_marks Tryz.func66 rfl trivial ?_ rfl
  simp only [Tryz.ntmps66, List.size_toArray, List.length_cons, List.length_nil, Nat.reduceAdd, Nat.reduceSub, Array.replicate_succ, Array.replicate_zero, List.push_toArray, List.append_toArray, List.nil_append, List.cons_append]
  obtain ⟨nN, hnN⟩ : ∃ nN, nN = N.length := ⟨_, rfl⟩
  obtain ⟨nA, hnA⟩ : ∃ nA, nA = A.length := ⟨_, rfl⟩
  obtain ⟨nR, hnR⟩ : ∃ nR, nR = R.length := ⟨_, rfl⟩
  rw [← hnN, ← hnA] at hbox
  rw [← hnN] at hn60
  rw [← hnA] at ha6
  rw [← hnR] at hRl
  rw [← hnN, ← hnA, ← hnR]
  replace hnN := Lib.hid hnN
  replace hnA := Lib.hid hnA
  replace hnR := Lib.hid hnR
  replace hn := Lib.hid hn
  replace hok := Lib.hid hok
  replace hR := Lib.hid hR
  obtain ⟨wA, hwA⟩ : ∃ wA, wA = ((w.alloc (.cells #[.slice aN nN cN, .slice aA nA cA] 31)).alloc (.cells #[.slice ra nR rc] 43)).alloc (.cells #[.slice none 0 0] 64) := ⟨_, rfl⟩
  have hfA : Fr w wA := by rw [hwA]; exact (((Fr.refl w).alloc _).alloc _).alloc _
  have hsA : wA.heap.size = w.heap.size + 3 := by rw [hwA]; simp
  have a1 := new2a w (.slice aN nN cN) (.slice aA nA cA) 31
  have a2 := new2b w (.slice aN nN cN) (.slice aA nA cA) 31
  have a3 := new_s (w.alloc (.cells #[.slice aN nN cN, .slice aA nA cA] 31)) ra nR rc 43
  have a4 := new_s ((w.alloc (.cells #[.slice aN nN cN, .slice aA nA cA] 31)).alloc (.cells #[.slice ra nR rc] 43)) none 0 0 64
  rw [show (w.alloc (.cells #[.slice aN nN cN, .slice aA nA cA] 31)).heap.size = w.heap.size + 1 by simp] at a3
  rw [show ((w.alloc (.cells #[.slice aN nN cN, .slice aA nA cA] 31)).alloc (.cells #[.slice ra nR rc] 43)).heap.size = w.heap.size + 1 + 1 by simp, ← hwA] at a4
  have k1 : Fr (w.alloc (.cells #[.slice aN nN cN, .slice aA nA cA] 31)) wA := by rw [hwA]; exact ((Fr.refl _).alloc _).alloc _
  have k2 : Fr ((w.alloc (.cells #[.slice aN nN cN, .slice aA nA cA] 31)).alloc (.cells #[.slice ra nR rc] 43)) wA := by rw [hwA]; exact (Fr.refl _).alloc _
  replace a1 := k1.keep a1.1
  replace a2 := k1.keep a2.1
  replace a3 := k2.keep a3.1
  have hbx := box_any aN aA nN cN nA cA m wA
  replace hbx := hbx.mono (fun e w' h => show e = .returned (.func (.func 208) #[] #[.pointer (some ⟨w.heap.size + 3, 0, none⟩), .pointer (some ⟨w.heap.size + 4, 0, none⟩)]) ∧ Fr wA w' ∧ w'.heap.size = w.heap.size + 5 ∧ w'.cell? ⟨w.heap.size + 3, 0, none⟩ = some (.slice aN nN cN) ∧ w'.cell? ⟨w.heap.size + 3, 1, none⟩ = some (.slice aA nA cA) ∧ w'.cell? ⟨w.heap.size + 4, 0, none⟩ = some (.int .i64 m) from by
    obtain ⟨rfl, rfl⟩ := h
    have b1 := new2a wA (.slice aN nN cN) (.slice aA nA cA) 31
    have b2 := new2b wA (.slice aN nN cN) (.slice aA nA cA) 31
    have b3 := new1 (wA.alloc (.cells #[.slice aN nN cN, .slice aA nA cA] 31)) (.int .i64 m) 3
    have k := (Fr.refl (wA.alloc (.cells #[.slice aN nN cN, .slice aA nA cA] 31))).alloc (.cells #[.int .i64 m] 3)
    rw [World.size_alloc, hsA] at b3
    rw [hsA] at b1 b2 ⊢
    exact ⟨rfl, ((Fr.refl wA).alloc _).alloc _, by simp [hsA], k.keep b1.1, k.keep b2.1, b3.1⟩)
  rw [hwA] at hbx
  replace hbx := Lib.hid hbx
  replace hwA := Lib.hid hwA
  clear k1 k2
  gi_wp2
  refine ⟨trivial, (callsIn_wide.2 hbx.out).mono ?_⟩
  rintro e W0 ⟨rfl, hfB, hs0, c3, c4, c5⟩
  rw [← hwA.out] at hfB
  have hf0 := hfA.trans hfB
  replace a1 := hfB.keep a1
  replace a2 := hfB.keep a2
  replace a3 := hfB.keep a3
  have a5 := hfB.keepf a4.1 a4.2
  replace a4 := hfB.keep a4.1
  replace hs0 := Lib.hid hs0
  clear hbx hfA hfB hwA hsA
  gi_wp2
  have hBn : w.heap.size + 3 < W0.heap.size := World.block_lt_of_cell? W0 _ c3
  have hBm : w.heap.size + 4 < W0.heap.size := World.block_lt_of_cell? W0 _ c5
  have hDs : W0.heap.size = w.heap.size + 5 := hs0.out
  refine wpIn_rangeX (n := 4) rfl (by omega) (gf := 208) (lb := #[.pointer (some ⟨w.heap.size + 3, 0, none⟩), .pointer (some ⟨w.heap.size + 4, 0, none⟩)]) rfl trivial (enters_of Tryz.func208 (by kernel_rfl) rfl)
    (box_seq (w.heap.size + 3) (w.heap.size + 4) nN nA m aN aA cN cA W0 (by omega) (by omega) (by omega) hBn hBm c3 c4 c5 (fun k => k ≠ w.heap.size + 3 ∧ k ≠ w.heap.size + 4) (fun k h => h)) (Fr.refl _) ⟨by omega, by omega⟩ (fun x => rfl)
    (fun p pre W => AllI W0 (w.heap.size + 1 + 1) p (pre.filter (keepP N A R)) W)
    (fun p p' s W W' h1 h2 h3 h4 => h1.step (by omega) h2 h3 h4)
    ⟨Fx.refl _ _, fun k e => e.elim, ⟨_, a4, a5, World.ownsRow_nil _ _ _ _, fun g hg => by simp [Value.ownBlock] at hg, fun _ => rfl⟩, fun x hx => by simp at hx⟩
    (fun p pre x a' W => ∃ Bx, pre.length < (boxL m nA nN).length ∧ stripX x ∈ boxL m nA nN ∧ W0.heap.size + 2 ≤ Bx ∧ Bx < W.heap.size ∧ W.cell? ⟨Bx, 0, none⟩ = some (.int .i64 x.i) ∧ W.cell? ⟨Bx, 1, none⟩ = some (.slice (some ⟨x.g, 0, none⟩) x.cs.length x.c) ∧ W0.heap.size + 2 ≤ x.g ∧ ¬ p x.g ∧ RowAt W x ∧
      a' = { tmps := #[.agg #[.slice aN nN cN, .slice aA nA cA], .slice ra nR rc, .int .i64 m, .pointer (some ⟨w.heap.size, 0, none⟩), .pointer (some ⟨w.heap.size + 1, 0, none⟩), undef, .slice none 0 0, .pointer (some ⟨w.heap.size + 1 + 1, 0, none⟩), .pointer (some ⟨Bx, 0, none⟩), .agg #[.slice aN nN cN, .slice aA nA cA], .int .i64 m, .func (.func 208) #[] #[.pointer (some ⟨w.heap.size + 3, 0, none⟩), .pointer (some ⟨w.heap.size + 4, 0, none⟩)], .agg #[.int .i64 x.i, .slice (some ⟨x.g, 0, none⟩) x.cs.length x.c], undef, undef, undef, undef, undef, undef, undef, undef, undef, undef, undef, undef], defers := [] })
    (fun p pre x a' W W' h k => by
      obtain ⟨Bx, bl, b0, b1, b2, b3, b4, b5, b7, b8, b9⟩ := h
      exact ⟨Bx, bl, b0, b1, Nat.lt_of_lt_of_le b2 k.size, k.keep b3 (fun e => by have e : Bx = W0.heap.size + 1 := e; omega), k.keep b4 (fun e => by have e : Bx = W0.heap.size + 1 := e; omega), b5, b7, b8.fx k (fun e => by have e : x.g = W0.heap.size + 1 := e; omega), b9⟩) ?assign ?body ?done
  case assign =>
    intro l p pre x W K hW hp hfr hK
    obtain ⟨gl, g0, g1, g3, g4⟩ := hfr
    have n1 := new2a W (.int .i64 x.i) (.slice (some ⟨x.g, 0, none⟩) x.cs.length x.c) 50
    have n2 := new2b W (.int .i64 x.i) (.slice (some ⟨x.g, 0, none⟩) x.cs.length x.c) 50
    have hfa : Fr W (W.alloc (.cells #[.int .i64 x.i, .slice (some ⟨x.g, 0, none⟩) x.cs.length x.c] 50)) := (Fr.refl W).alloc _
    have hK2 := Lib.hid (fun a' h => hK a' _ hfa ⟨W.heap.size, gl, g0, hW, by simp, n1.1, n2.1, g1, g3, g4.fr hfa, h⟩)
    clear hK n1 n2 hfa
    simp only [BX.enc]
    gi_wp2
    exact hK2.out _ rfl
  case body =>
    rintro l p pre x a' W hW hp hI ⟨Bx, bl, b0, b1, b2, b3, b4, b5, b7, b8, rfl⟩
    have b6 := b8.lt
    obtain ⟨v, o1, o2, o3, o4, o5⟩ := hI.out
    have hfW : Fr w W := ((Fx.of_fr hf0).trans hI.fx).toFr (fun k hk e => by have e : k = w.heap.size + 1 + 1 := e; omega)
    have x1 := hI.fx.keep a1 (fun e => by have e : w.heap.size = w.heap.size + 1 + 1 := e; omega)
    have x2 := hI.fx.keep a2 (fun e => by have e : w.heap.size = w.heap.size + 1 + 1 := e; omega)
    have x3 := hI.fx.keep a3 (fun e => by have e : w.heap.size + 1 = w.heap.size + 1 + 1 := e; omega)
    have x4 := hI.el
    have x5 := hI.pD
    have x6 := hI.fx
    clear hI
    obtain ⟨m1, m2, m3⟩ := boxL_mem b0
    have hsum := fun W' (hW' : Fr W W') => sum_any d aN aA cN cA N A x.i x.cs (some ⟨x.g, 0, none⟩) x.c W' (hn.out.fr (hfW.trans hW')) hok.out hd (by rw [← hnN.out]; exact m1) (b8.2.fr hW') (by rw [← hnA.out]; exact m2) (fun c hc => by have := m3 c hc; unfold fitB; exact decide_eq_true (by omega))
    have hSl := sumS_length hok.out (i := x.i) (by rw [← hnN.out]; exact m1) x.cs
    have hcsl : x.cs.length = nA := m2
    have hcs9 := Lib.hid hcsl.symm
    have hd12 := hok.out.d12
    have hkeep : keepP N A R x = decide (sumS N A (x.i, x.cs) = R) := rfl
    rw [← hnN.out, ← hnA.out, hcsl] at hsum
    have heq := fun W' (hW' : Fr W W') a c (hel : El W' iv a (sumS N A (x.i, x.cs))) => Equal_ints (sumS N A (x.i, x.cs)) R a ra c rc W' hel (hR.out.fr (hfW.trans hW')) (by omega) (by rw [← hnR.out]; omega)
    rw [← hnR.out] at heq
    generalize hSS : sumS N A (x.i, x.cs) = SS at *
    rw [hcsl] at b4 ⊢
    obtain ⟨q, hq⟩ : ∃ q, q = decide (SS = R) := ⟨_, rfl⟩
    rw [← hq] at hkeep
    rw [← hq] at heq
    replace hq := Lib.hid hq
    replace hsum := Lib.hid hsum
    replace heq := Lib.hid heq
    replace hSl := Lib.hid hSl
    clear m1 m2 m3 hcsl hSS
    replace hkeep := Lib.hid hkeep
    replace hp := Lib.hid hp
    replace x4 := Lib.hid x4
    replace x5 := Lib.hid x5
    replace o4 := Lib.hid o4
    replace o5 := Lib.hid o5
    have hmx : Tryz.prog.follows .mixedOrders = true := by kernel_rfl
    have hft : Fence.wide.fn 64 := trivial
    have hft2 : Fence.wide.fn 70 := trivial
    gi_wp2
    gi_region_with (first
      | (gi_at_call 64; (with_reducible refine (CallsIn.inRound l (callsIn_wide.2 (hsum.out _ ?_))).mono ?_); (repeat (with_reducible first | assumption | exact Fr.refl _ | refine Fr.drew ?_ | refine Fr.drewN ?_ _ | refine Fr.alloc ?_ _ | (refine Fr.setCell ?_ (by simp only [World.size_alloc, World.size_drew, World.size_setCell]; omega) _) | refine Fr.trans ?_ (by assumption))); rintro e w1 ⟨g1, c1, rfl, hg1, hel1, hf1⟩; have y3 := hf1.keep x3)
      | (gi_at_call 70; have hFr : Fr W w1 := (by repeat (with_reducible first | assumption | exact Fr.refl _ | refine Fr.drew ?_ | refine Fr.drewN ?_ _ | refine Fr.alloc ?_ _ | (refine Fr.setCell ?_ (by simp only [World.size_alloc, World.size_drew, World.size_setCell]; omega) _) | refine Fr.trans ?_ (by assumption))); have h1 := CallsIn.inRound l ((callsIn_wide (n := 1)).2 (heq.out w1 hFr (some ⟨g1, 0, none⟩) c1 hel1)); refine h1.mono ?_; clear h1; rintro e w2 ⟨rfl, hf2⟩))
    all_goals
      have hfZ : Fr W w2 := by repeat (with_reducible first | assumption | exact Fr.refl _ | refine Fr.drew ?_ | refine Fr.drewN ?_ _ | refine Fr.alloc ?_ _ | (refine Fr.setCell ?_ (by simp only [World.size_alloc, World.size_drew, World.size_setCell]; omega) _) | refine Fr.trans ?_ (by assumption))
      clear hf1 hf2 hFr y3 hel1
      have y1 := hfZ.keep o1
      have y2 := hfZ.keepf o1 o2
      have y4 := hfZ.keep b3
      have y5 := hfZ.keep b4
      have y6 := Lib.hid (ownsRow_fr o3 hfZ)
      replace o3 := Lib.hid o3
      have y7 := hfZ.size
      have hfl : (pre.filter (keepP N A R)).length ≤ pre.length := List.length_filter_le _ _
      have hfx : Fx (fun k => ¬ p k ∧ (k ≠ w.heap.size + 3 ∧ k ≠ w.heap.size + 4) ∧ k ≠ W0.heap.size ∧ k ≠ W0.heap.size + 1) W w2 := Fx.of_fr hfZ
      have hflat := flat2_length ((pre.filter (keepP N A R)).map BX.enc2)
      rw [List.length_map] at hflat
      cases q with
      | false =>
        have hpf : (pre ++ [x]).filter (keepP N A R) = pre.filter (keepP N A R) := by rw [List.filter_append, List.filter_cons, hkeep.out]; simp
        have hfin := Lib.hid (show AllI W0 (w.heap.size + 1 + 1) p ((pre ++ [x]).filter (keepP N A R)) w2 from by
          rw [hpf]
          exact ⟨x6.fr hfZ, x5.out, ⟨v, y1, y2, y6.out, fun g hg => ⟨(o4.out g hg).1, Nat.lt_of_lt_of_le (o4.out g hg).2 y7⟩, o5.out⟩, fun z hz => by
            obtain ⟨z1, z3, z4⟩ := x4.out z hz
            exact ⟨z1, z3, z4.fr hfZ⟩⟩)
        replace hfx := Lib.hid hfx
        clear hpf hflat hfl
        gi_wp2
        exact ⟨hfx.out, hfin.out⟩
      | true =>
        have hpf : (pre ++ [x]).filter (keepP N A R) = pre.filter (keepP N A R) ++ [x] := by rw [List.filter_append, List.filter_cons, hkeep.out]; simp
        obtain ⟨K, hK⟩ : ∃ K, K = pre.filter (keepP N A R) := ⟨_, rfl⟩
        rw [← hK] at hpf hflat hfl x4 y6 o3
        replace hpf := Lib.hid hpf
        replace hfx := Lib.hid hfx
        replace hflat := Lib.hid hflat
        replace hK := Lib.hid hK
        have hKl : K.length + 1 ≤ 1000001 := by omega
        clear o3 hfl
        have hvo : ∀ k, v.ownBlock = some k → W0.heap.size + 2 ≤ k := fun k hk => ownsRow_own_ge y6.out k hk
        have hzA : Fr w2 (w2.alloc (.cells #[.int .i64 x.i, .slice (some ⟨x.g, 0, none⟩) nA x.c] 50)) := (Fr.refl w2).alloc _
        have s1 := hzA.keep y1
        have s2 := hzA.keepf y1 y2
        replace hvo := Lib.hid hvo
        replace hzA := Lib.hid hzA
        replace s1 := Lib.hid s1
        replace s2 := Lib.hid s2
        gi_wp2_with (gi_at_builtin; refine wpListIn_append_own_at _ rfl _ _ 64 (by rfl) (W0.heap.size + 2) 50 i0 _ 2 32 Tryz.underlying64 hi hz0 hz1 hz2 rfl (by decide) _ K.length _ (by rfl) (y6.out.alloc _) ⟨w2.heap.size, 0, none⟩ 1 1 [.int .i64 x.i, .slice (some ⟨x.g, 0, none⟩) nA x.c] (by rfl) rfl (cell_two_new _ _ _ _) (by simp [Value.oneCell']) (by unfold maxLen; omega) (by omega) (by simp; omega) ?_; intro v' w3 hown3 hgr3 _ hat3; obtain ⟨g9, cap9, rfl⟩ := ownsRow_pos hown3 (by omega); have hFx := Fx.of_grown hgr3; have u1 := hFx.keep s1.out (fun e => by have e9 : W0.heap.size + 2 ≤ w.heap.size + 1 + 1 := hvo.out _ e; omega); have u2 := hFx.keepf s1.out s2.out (fun e => by have e9 : W0.heap.size + 2 ≤ w.heap.size + 1 + 1 := hvo.out _ e; omega); replace hFx := Lib.hid hFx; clear hgr3)
        obtain ⟨hpush, hFF⟩ := AllI.push (by omega) x6 x5.out x4.out o4.out (fun k hk => (hp.out k hk).2) hfZ y6.out hFx.out hown3 (by rw [hcs9.out]; rfl) hat3 u1 u2 b5 b7 b8
        rw [← hpf.out] at hpush
        refine ⟨hFF.mono (fun k e => ?_), hpush⟩
        rcases e with e | e
        · have h1 := (o4.out k e).1
          have h2 := hvo.out k e
          exact ⟨h1, ⟨by omega, by omega⟩, by omega, by omega⟩
        · exact ⟨fun h => by have := (hp.out k h).1; omega, ⟨by omega, by omega⟩, by omega, by omega⟩
  case done =>
    intro p xs W hS hI hK
    obtain ⟨v, o1, o2, o3, o4, o5⟩ := hI.out
    have hel := hI.el
    have hfx := hI.fx
    clear hI
    have hKm : (xs.filter (keepP N A R)).map stripX = (boxL m nA nN).filter fun s => decide (sumS N A s = R) := by
      rw [← hS, List.filter_map]; rfl
    have hKnd : ((xs.filter (keepP N A R)).map stripX).Nodup := by rw [hKm]; exact (boxL_nodup m nA nN).filter _
    have hKb : ∀ x, x ∈ xs.filter (keepP N A R) → x.cs.length = nA ∧ ∀ c, c ∈ x.cs → fitB c = true := fun x hx => by
      have h1 : stripX x ∈ boxL m nA nN := by rw [← hS]; exact List.mem_map_of_mem (List.mem_filter.1 hx).1
      obtain ⟨-, m2, m3⟩ := boxL_mem h1
      exact ⟨m2, fun c hc => by have := m3 c hc; unfold fitB; exact decide_eq_true (by omega)⟩
    have hKl : (xs.filter (keepP N A R)).length ≤ 1000001 := by
      have h1 : xs.length = (boxL m nA nN).length := by rw [← hS, List.length_map]
      have := List.length_filter_le (keepP N A R) xs
      omega
    have hfr : Fr w W := ((Fx.of_fr hf0).trans hfx).toFr (fun k hk e => by have e : k = w.heap.size + 1 + 1 := e; omega)
    generalize xs.filter (keepP N A R) = K at *
    replace hS := Lib.hid hS
    replace hKm := Lib.hid hKm
    replace hKnd := Lib.hid hKnd
    replace hel := Lib.hid hel
    replace hKb := Lib.hid hKb
    replace hfr := Lib.hid hfr
    replace hfx := Lib.hid hfx
    have hDl : W0.heap.size < W.heap.size := (Array.getElem?_eq_some_iff.1 hK).1
    by_cases hK0 : K = []
    · obtain rfl := o5 hK0
      have hres := Lib.hid (show ∀ W', Fr w W' → AllRet w (sortS ((boxL m nA nN).filter fun s => decide (sumS N A s = R))) (.returned (.slice none 0 0)) W' from fun W' hW' => by
        rw [← hKm.out]
        subst hK0
        exact ⟨none, 0, [], rfl, ⟨⟨rfl, .inl ⟨rfl, rfl⟩⟩, fun x hx => by simp at hx⟩, by simp [sortS], hW'⟩)
      have hsort := Lib.hid (fun fv => AnyF.slices_SortFunc_none { Tryz.sortSp with } none 0 fv W)
      clear o3 o4 o5 hK0
      gi_wp2
      refine ⟨trivial, (callsIn_wide.2 (hsort.out _)).mono ?_⟩
      rintro e W1 ⟨rfl, rfl⟩
      gi_wp2
      rw [hDs] at hK
      refine ⟨by simp, .inl ⟨_, _, rfl, run_takeDeferred hK, ?_⟩⟩
      refine ⟨_, results_tmp rfl _ _ _, ?_⟩
      exact hres.out _ (((Fx.of_fr hfr.out).trans (Fx.putObj _ _ _)).toFr (fun k hk e => by have e : k = w.heap.size + 5 := e; omega))
    · obtain ⟨g, cap, rfl⟩ := ownsRow_pos o3 (List.length_pos_iff.2 hK0)
      have hge := ownsRow_own_ge o3 g rfl
      have hsort := SortFunc_sp (W0.heap.size + 2) g cap K W o3 (fun x hx => (hel.out x hx).2.2) hKnd.out (fun x hx => by rw [(hKb.out x hx).1]; omega) (fun x hx => (hKb.out x hx).2) hK0 hKl
      replace hsort := Lib.hid hsort
      have hol := Lib.hid o3
      clear o3 o4 o5 hK0
      gi_wp2
      refine ⟨trivial, (callsIn_wide.2 hsort.out).mono ?_⟩
      rintro e W1 ⟨rfl, K', hK1, hK2, hF1, hown1⟩
      have q1 := hF1.keep o1 (fun e => by have e : w.heap.size + 1 + 1 = g := e; omega)
      replace hK1 := Lib.hid hK1
      have hKD : W1.heap[w.heap.size + 5]? = some (.deferred (some [])) := by rw [← hDs]; exact (hF1.block _ hDl (fun e => by have e : W0.heap.size = g := e; omega)).trans hK
      have hFr1 : Fr w W1 := ((Fx.of_fr hfr.out).trans hF1).toFr (fun k hk e => by have e : k = g := e; omega)
      have hres := Lib.hid (show ∀ W', Fx (· = w.heap.size + 5) W1 W' → AllRet w (sortS ((boxL m nA nN).filter fun s => decide (sumS N A s = R))) (.returned (.slice (some ⟨g, 0, none⟩) K.length cap)) W' from fun W' hW' => by
        rw [← hKm.out]
        have hlK : K'.length = K.length := hK2.length_eq
        refine ⟨some ⟨g, 0, none⟩, cap, K', by rw [hlK], ⟨?_, fun x hx => ?_⟩, hK1.out, ((Fx.of_fr hFr1).trans hW').toFr (fun k hk e => by have e : k = w.heap.size + 5 := e; omega)⟩
        · rw [hlK]
          exact ownsRow_mono (ownsRow_fx hown1 hW' (fun k hk e => by
            have e : k = w.heap.size + 5 := e
            have h2 : g = k := by simpa [Value.ownBlock] using hk
            omega)) (by omega)
        · obtain ⟨z1, z2, z3⟩ := hel.out x (hK2.mem_iff.1 hx)
          have hne := z3.ne hol.out
          have hne2 : ¬ x.g = g := fun e => hne (by rw [e]; rfl)
          have z4 := (z3.fx hF1 hne2).fx hW' (fun e => by have e : x.g = w.heap.size + 5 := e; omega)
          exact ⟨by omega, z4.lt, by rw [hlK]; exact hne, z4.2⟩)
      gi_wp2
      refine ⟨by simp, .inl ⟨_, _, rfl, run_takeDeferred hKD, ?_⟩⟩
      refine ⟨_, results_tmp rfl _ _ _, ?_⟩
      exact hres.out _ (Fx.putObj _ _ _)
end Go.Proofs.YtbpfkmpkadimeaaGreatDoor

/- spelling.All. -/
namespace Go.Proofs.YtbpfkmpkadimeaaGreatDoor
open Go.RowKit Go.Lib

/-- the first error of All, the notation being right -/
def allE9 (d n a : Nat) (R : List Int) (most : Int) : Int := if rowE R ≠ 0 then rowE R else if R.length ≠ d then 5 else boundE n a most
/-- spellings and no error, or an error -/
def AllRetE (w : World) (L : List (Nat × List Int)) (err : Int) (e : Ending) (w' : World) : Prop :=
  (err = 0 → ∃ a c xs, e = .returned (.tuple #[.slice a xs.length c, .int .i64 0]) ∧ OwnSp w' w.heap.size a c xs ∧ xs.map stripX = L) ∧ (err ≠ 0 → e = .returned (.tuple #[.slice none 0 0, .int .i64 err])) ∧ Fr w w'
def allL (N A : List Sy) (R : List Int) (m : Nat) : List (Nat × List Int) := sortS ((boxL m A.length N.length).filter fun s => decide (sumS N A s = R))

theorem OwnSp.mono {w : World} {base base' : Nat} {a : Option Addr} {c : Nat} {xs : List BX} (h : OwnSp w base a c xs) (hb : base' ≤ base) : OwnSp w base' a c xs :=
  ⟨ownsRow_mono h.own hb, fun x hx => ⟨Nat.le_trans hb (h.el x hx).1, (h.el x hx).2⟩⟩
theorem boundE_size {n a m : Nat} (hn : n ≤ 60) (h : boundE n a m = 0) : n * (2 * m + 1) ^ a ≤ 20000 := by
  unfold boundE at h
  rw [if_neg (by omega)] at h
  exact bdE_size a n (by omega) h

set_option maxRecDepth 100000 in
set_option maxHeartbeats 4000000 in
theorem All_any (d : Nat) (aN aA : Option Addr) (cN cA : Nat) (N A : List Sy) (R : List Int) (ra : Option Addr) (rc : Nat) (most : Int) (w : World) (hn : NotIs w aN aA cA N A) (hok : NotOk d N A) (hd : 1 ≤ d) (hR : El w iv ra R) (hRl : R.length ≤ 1000000) (hm : boundE N.length A.length most = 0 → most ≤ 20000) :
    Calls Tryz.prog 24 #[.agg #[.slice aN N.length cN, .slice aA A.length cA], .slice ra R.length rc, .int .i64 most] w (AllRetE w (allL N A R most.toNat) (allE9 d N.length A.length R most)) := by
  have hn1 := hok.n1
  have hn60 := hok.n60
  have ha6 := hok.a6
  have hd12 := hok.d12
  have hchk := fun W (hW : Fr w W) => SCheck_ok d aN aA cN cA N A W (hn.fr hW) hok
  have hrow := fun W (hW : Fr w W) => Check_row R ra rc W (hR.fr hW) (by omega)
  have hbnd := fun W => bound_any aN aA cN cA N.length A.length most W (by omega) (by omega)
  obtain ⟨b, o, x, rfl, hbl, hxi, hc1, hc2, -⟩ := hn.noms.at hn1
  have hrl := hok.row x (List.mem_append_left _ (List.mem_of_getElem? hxi))
  rw [hrl, Nat.zero_mul, Nat.add_zero] at hc2
  have hall : boundE N.length A.length most = 0 → ∀ W, Fr w W → Calls Tryz.prog 66 #[.agg #[.slice (some ⟨b, o, none⟩) N.length cN, .slice aA A.length cA], .slice ra R.length rc, .int .i64 most] W (AllRet W (allL N A R most.toNat)) := fun h0 W hW => by
    have h1 : 0 ≤ most := by
      by_cases h : most < 0
      · unfold boundE at h0; rw [if_pos h] at h0; omega
      · omega
    have h2 := hm h0
    obtain ⟨m, rfl⟩ : ∃ m : Nat, most = m := ⟨most.toNat, by omega⟩
    have h3 := boundE_size hn60 h0
    exact all_any d (some ⟨b, o, none⟩) aA cN cA N A R ra rc m W (hn.fr hW) hok hd (hR.fr hW) hRl (by omega) (by rw [boxL_size]; omega)
  obtain ⟨L, hL⟩ : ∃ L, L = allL N A R most.toNat := ⟨_, rfl⟩
  rw [← hL] at hall ⊢
  obtain ⟨err, herr⟩ : ∃ err, err = allE9 d N.length A.length R most := ⟨_, rfl⟩
  rw [← herr]
  unfold allE9 at herr
  generalize hbe : boundE N.length A.length most = be at *
  obtain ⟨nR, hnR⟩ : ∃ nR, nR = R.length := ⟨_, rfl⟩
  rw [← hnR] at hrow hall herr hRl ⊢
  generalize N.length = nN at *
  generalize A.length = nA at *
  generalize rowE R = re at *
  clear hn hok hR hm hxi hc1 hrl
  have p1 := new2a w (.slice (some ⟨b, o, none⟩) nN cN) (.slice aA nA cA) 31
  have p2 := new2b w (.slice (some ⟨b, o, none⟩) nN cN) (.slice aA nA cA) 31
  have hfA : Fr w (w.alloc (.cells #[.slice (some ⟨b, o, none⟩) nN cN, .slice aA nA cA] 31)) := (Fr.refl w).alloc _
  have p3 := hfA.keep hc2
  replace hfA := Lib.hid hfA
  replace p1 := Lib.hid p1.1
  replace p2 := Lib.hid p2.1
  replace p3 := Lib.hid p3
  replace hchk := Lib.hid hchk
  replace hrow := Lib.hid hrow
  replace hbnd := Lib.hid hbnd
  replace hall := Lib.hid hall
  replace hbe := Lib.hid hbe
  replace hL := Lib.hid hL
  replace hnR := Lib.hid hnR
  clear hc2
  by_cases h1 : re = 0
  · subst h1
    rw [if_neg (by simp)] at herr
    by_cases h2 : nR = d
    · rw [if_neg (by simp [h2])] at herr
      have q2 : ((nR : Int) != d) = false := by rw [h2]; simp
      replace h2 := Lib.hid h2
      by_cases h3 : be = 0
      · subst h3
        subst herr
        go_enter Tryz.func24, Tryz.ntmps24
        go_wp2_with fail
        refine (hchk.out _ hfA.out).mono ?_
        rintro e w1 ⟨rfl, hf1⟩
        go_wp2_with fail
        refine (hrow.out _ (hfA.out.trans hf1)).mono ?_
        rintro e w2 ⟨rfl, hf2⟩
        have y1 := (hf1.trans hf2).keep p1.out
        have y2 := (hf1.trans hf2).keep p2.out
        have y3 := (hf1.trans hf2).keep p3.out
        have hfw := hfA.out.trans (hf1.trans hf2)
        clear hf1 hf2
        go_wp2_with fail
        refine (hbnd.out _).mono ?_
        rintro e w3 ⟨rfl, hf3⟩
        replace y1 := hf3.keep y1
        replace y2 := hf3.keep y2
        go_wp2_with fail
        have hf4 := hfw.trans hf3
        refine (hall.out (by simp) _ hf4).mono ?_
        rintro e w4 ⟨a4, c4, xs, rfl, hown, hxs, hf5⟩
        have hfin := Lib.hid (hown.mono hf4.size)
        replace hxs := Lib.hid hxs
        go_wp2_with fail
        go_ret2
        exact ⟨fun _ => ⟨a4, c4, xs, rfl, hfin.out, hxs.out⟩, fun h => absurd rfl h, hf4.trans hf5⟩
      · have q3 : (be != 0) = true := by rw [bne_iff_ne]; exact h3
        subst herr
        go_enter Tryz.func24, Tryz.ntmps24
        go_wp2_with fail
        refine (hchk.out _ hfA.out).mono ?_
        rintro e w1 ⟨rfl, hf1⟩
        go_wp2_with fail
        refine (hrow.out _ (hfA.out.trans hf1)).mono ?_
        rintro e w2 ⟨rfl, hf2⟩
        have y1 := (hf1.trans hf2).keep p1.out
        have y2 := (hf1.trans hf2).keep p2.out
        have y3 := (hf1.trans hf2).keep p3.out
        have hfw := hfA.out.trans (hf1.trans hf2)
        clear hf1 hf2
        go_wp2_with fail
        refine (hbnd.out _).mono ?_
        rintro e w3 ⟨rfl, hf3⟩
        go_wp2_with fail
        go_ret2
        exact ⟨fun h => absurd h h3, fun _ => rfl, hfw.trans hf3⟩
    · rw [if_pos h2] at herr
      subst herr
      have q2 : ((nR : Int) != d) = true := by rw [bne_iff_ne]; omega
      replace h2 := Lib.hid h2
      go_enter Tryz.func24, Tryz.ntmps24
      go_wp2_with fail
      refine (hchk.out _ hfA.out).mono ?_
      rintro e w1 ⟨rfl, hf1⟩
      go_wp2_with fail
      refine (hrow.out _ (hfA.out.trans hf1)).mono ?_
      rintro e w2 ⟨rfl, hf2⟩
      have y1 := (hf1.trans hf2).keep p1.out
      have y2 := (hf1.trans hf2).keep p2.out
      have y3 := (hf1.trans hf2).keep p3.out
      have hfw := hfA.out.trans (hf1.trans hf2)
      clear hf1 hf2
      go_wp2_with fail
      go_ret2
      exact ⟨fun h => absurd h (by decide), fun _ => rfl, hfw⟩
  · rw [if_pos h1] at herr
    have q1 : (re != 0) = true := by rw [bne_iff_ne]; exact h1
    subst herr
    go_enter Tryz.func24, Tryz.ntmps24
    go_wp2_with fail
    refine (hchk.out _ hfA.out).mono ?_
    rintro e w1 ⟨rfl, hf1⟩
    go_wp2_with fail
    refine (hrow.out _ (hfA.out.trans hf1)).mono ?_
    rintro e w2 ⟨rfl, hf2⟩
    go_wp2_with fail
    go_ret2
    exact ⟨fun h => absurd h h1, fun _ => rfl, hfA.out.trans (hf1.trans hf2)⟩
end Go.Proofs.YtbpfkmpkadimeaaGreatDoor

/- slices.DeleteFunc of structs of two cells, in a row that may be written. -/
namespace Go.Proofs.YtbpfkmpkadimeaaGreatDoor
open Go.RowKit Go.Lib

theorem flat2_set : ∀ (l : List (Value × Value)) (i : Nat) (y : Value × Value), flat2 (l.set i y) = ((flat2 l).set (i * 2) y.1).set (i * 2 + 1) y.2
  | [], i, y => by simp [flat2]
  | x :: l, 0, y => by simp [flat2]
  | x :: l, i + 1, y => by
    have e : (i + 1) * 2 = i * 2 + 1 + 1 := by omega
    rw [e, List.set_cons_succ, flat2, flat2, flat2_set l i y]
    simp
theorem Cnt.prs {W : World} {g : Nat} {l : List (Value × Value)} (h : Cnt W g (flat2 l)) : Prs W (some ⟨g, 0, none⟩) l := by
  refine .inr ⟨g, 0, rfl, h.1, fun i x hx => ?_⟩
  have := flat2_get l i x hx
  rw [Nat.zero_add]
  exact ⟨(h.2 _ _ this.1).1, (h.2 _ _ this.2).1⟩
theorem run_clear_cells {P : Program} (w : World) (t e ty : TypeId) (z : Value) (ht : P.underlying t = some (.slice e)) (hv : ∀ u, (zeroValue e).run P u = .ok z u) (b o n c : Nat) (hn : 0 < n)
    (h1 : ∀ v, v ∈ (Builtin.zeroCells z.cells n).toList → v.oneCell' = true)
    (hc : ∀ j, j < (Builtin.zeroCells z.cells n).toList.length → (w.cell? ⟨b, o + j, none⟩).isSome = true) (hf : ∀ j, j < (Builtin.zeroCells z.cells n).toList.length → w.frozen? ⟨b, o + j, none⟩ = false) :
    (Builtin.clear_ #[t] ty #[.slice (some ⟨b, o, none⟩) n c]).run P w = .ok (.tuple #[]) (w.setCells b o (Builtin.zeroCells z.cells n).toList) := by
  have hst := run_storeCells_cells (P := P) b o (Builtin.zeroCells z.cells n).toList 0 w (by simpa using hc) (by simpa using hf) h1
  simp only [Nat.add_zero] at hst
  obtain ⟨m, rfl⟩ : ∃ m, n = m + 1 := ⟨n - 1, by omega⟩
  simp [Builtin.clear_, run_underlying ht, hv, hst]
theorem fx_setCells {p : Nat → Prop} {b : Nat} (hb : p b) : ∀ (vs : List Value) (o : Nat) (a w : World), Fx p a w → Fx p a (w.setCells b o vs)
  | [], _, _, _, h => h
  | v :: r, o, a, _, h => fx_setCells hb r (o + 1) a _ (h.setCell (q := ⟨b, o, none⟩) (.inl hb) v)

def keepL {α : Type} (p : α → Bool) (l : List α) : List α := l.filter fun x => !p x
theorem keepL_snoc {α : Type} {p : α → Bool} {l : List α} {j : Nat} {x : α} (h : l[j]? = some x) : keepL p (l.take (j + 1)) = if p x then keepL p (l.take j) else keepL p (l.take j) ++ [x] := by
  unfold keepL
  rw [List.take_add_one, h, List.filter_append]
  cases hp : p x <;> simp [hp]

/-- the state of the loop: the first i are those kept of the first j, from j on all stand as they stood -/
structure DelI {α : Type} (enc : α → Value × Value) (p : α → Bool) (xs : List α) (W : World) (g i j : Nat) (L : List (Value × Value)) (wr : World) : Prop where
  cnt : Cnt wr g (flat2 L)
  len : L.length = xs.length
  lt : i < j
  le : j ≤ xs.length
  num : (keepL p (xs.take j)).length = i
  low : L.take i = (keepL p (xs.take j)).map enc
  high : L.drop j = (xs.drop j).map enc
  fx : Fx (· = g) W wr

theorem DelI.at {α : Type} {enc : α → Value × Value} {p : α → Bool} {xs : List α} {W : World} {g i j : Nat} {L : List (Value × Value)} {wr : World} (h : DelI enc p xs W g i j L wr) {x : α} (hx : xs[j]? = some x) :
    wr.cell? ⟨g, j * 2, none⟩ = some (enc x).1 ∧ wr.cell? ⟨g, j * 2 + 1, none⟩ = some (enc x).2 := by
  have h1 : (L.drop j)[0]? = some (enc x) := by rw [h.high, List.getElem?_map, List.getElem?_drop, Nat.add_zero, hx]; rfl
  rw [List.getElem?_drop, Nat.add_zero] at h1
  obtain ⟨a, b⟩ := flat2_get L j _ h1
  exact ⟨(h.cnt.2 _ _ a).1, (h.cnt.2 _ _ b).1⟩
theorem DelI.there {α : Type} {enc : α → Value × Value} {p : α → Bool} {xs : List α} {W : World} {g i j : Nat} {L : List (Value × Value)} {wr : World} (h : DelI enc p xs W g i j L wr) {k : Nat} (hk : k < xs.length) :
    ∃ u v, wr.cell? ⟨g, k * 2, none⟩ = some u ∧ wr.cell? ⟨g, k * 2 + 1, none⟩ = some v ∧ wr.frozen? ⟨g, k * 2, none⟩ = false ∧ wr.frozen? ⟨g, k * 2 + 1, none⟩ = false := by
  have hk2 : k < L.length := by rw [h.len]; exact hk
  obtain ⟨a, b⟩ := flat2_get L k _ (List.getElem?_eq_getElem hk2)
  exact ⟨_, _, (h.cnt.2 _ _ a).1, (h.cnt.2 _ _ b).1, (h.cnt.2 _ _ a).2, (h.cnt.2 _ _ b).2⟩
theorem DelI.skip {α : Type} {enc : α → Value × Value} {p : α → Bool} {xs : List α} {W : World} {g i j : Nat} {L : List (Value × Value)} {wr w2 : World} (h : DelI enc p xs W g i j L wr) {x : α} (hx : xs[j]? = some x) (hp : p x = true) (hf : Fr wr w2) : DelI enc p xs W g i (j + 1) L w2 := by
  have hj : j < xs.length := (List.getElem?_eq_some_iff.1 hx).1
  have e := keepL_snoc (p := p) hx
  rw [if_pos hp] at e
  refine ⟨h.cnt.fx (p := fun _ => False) (Fx.of_fr hf) (fun e => e), h.len, by have := h.lt; omega, hj, by rw [e]; exact h.num, by rw [e]; exact h.low, ?_, h.fx.fr hf⟩
  have := congrArg (List.drop 1) h.high
  rw [List.drop_drop, ← List.map_drop, List.drop_drop] at this
  exact this
theorem DelI.put {α : Type} {enc : α → Value × Value} {p : α → Bool} {xs : List α} {W : World} {g i j : Nat} {L : List (Value × Value)} {wr w2 : World} (h : DelI enc p xs W g i j L wr) {x : α} (hx : xs[j]? = some x) (hp : p x = false) (hf : Fr wr w2) :
    DelI enc p xs W g (i + 1) (j + 1) (L.set i (enc x)) ((w2.setCell ⟨g, i * 2, none⟩ (enc x).1).setCell ⟨g, i * 2 + 1, none⟩ (enc x).2) := by
  have hj : j < xs.length := (List.getElem?_eq_some_iff.1 hx).1
  have e := keepL_snoc (p := p) hx
  rw [if_neg (by simp [hp])] at e
  have hi := h.lt
  have hiL : i < L.length := by rw [h.len]; omega
  have hc := h.cnt.fx (p := fun _ => False) (Fx.of_fr hf) (fun e => e)
  have hfl := flat2_length L
  have hc2 := (hc.set (i * 2) (by omega) (enc x).1).set (i * 2 + 1) (by rw [List.length_set]; omega) (enc x).2
  rw [← flat2_set] at hc2
  refine ⟨hc2, by rw [List.length_set]; exact h.len, by omega, hj, by rw [e, List.length_append, h.num]; rfl, ?_, ?_, ((h.fx.fr hf).setCell (q := ⟨g, i * 2, none⟩) (.inl rfl) _).setCell (q := ⟨g, i * 2 + 1, none⟩) (.inl rfl) _⟩
  · rw [e, List.map_append, take_set_succ hiL, h.low]; rfl
  · rw [List.drop_set_of_lt (by omega)]
    have := congrArg (List.drop 1) h.high
    rw [List.drop_drop, ← List.map_drop, List.drop_drop] at this
    exact this

set_option maxRecDepth 100000 in
set_option maxHeartbeats 4000000 in
theorem DeleteFunc_spl {α : Type} (enc : α → Value × Value) (xs : List α) (g cap : Nat) (gF : Nat) (lb : Array Value) (p : α → Bool) (W : World)
    (eg : ∀ args w, (callFunc gF args).run Tryz.prog w = .ok (.enter gF args) w) (hx : Cnt W g (flat2 (xs.map enc))) (hl : xs.length ≤ 1000000000) (hcap : xs.length ≤ cap) (hone : ∀ x, ∃ (i : Int) (a : Option Addr) (n c : Nat), enc x = (.int .i64 i, .slice a n c))
    (hp : ∀ x, x ∈ xs → ∀ W', Fx (· = g) W W' → Calls Tryz.prog gF (#[.agg #[(enc x).1, (enc x).2]] ++ lb) W' fun e w' => e = .returned (.bool (p x)) ∧ Fr W' w') :
    Calls Tryz.prog 67 #[.slice (some ⟨g, 0, none⟩) xs.length cap, .func (.func gF) #[] lb] W fun e W' => e = .returned (.slice (some ⟨g, 0, none⟩) (keepL p xs).length cap) ∧ Prs W' (some ⟨g, 0, none⟩) ((keepL p xs).map enc) ∧ Fx (· = g) W W' := by
  have hIF := IndexFunc_spl enc xs (some ⟨g, 0, none⟩) cap gF lb p W eg hx.prs hl (fun x W' hm hW' => hp x hm W' (Fx.of_fr hW'))
  have hidx := idx_cases p xs
  obtain ⟨n, hn⟩ : ∃ n, n = xs.length := ⟨_, rfl⟩
  rw [← hn] at hIF hl hcap ⊢
  rcases hidx with ⟨h1, h2⟩ | ⟨k, x, h1, h2, h3, h4⟩
  · rw [h1] at hIF
    have hk : keepL p xs = xs := by unfold keepL; exact List.filter_eq_self.2 (fun x hx => by rw [h2 x hx]; rfl)
    have hres := Lib.hid (show ∀ W', Fr W W' → Prs W' (some ⟨g, 0, none⟩) ((keepL p xs).map enc) ∧ Fx (· = g) W W' from fun W' hW' => ⟨by rw [hk]; exact hx.prs.fr hW', Fx.of_fr hW'⟩)
    have hkl := Lib.hid (show (keepL p xs).length = n by rw [hk, hn])
    clear hp hk h1 h2 hx eg hn
    go_enter Tryz.func67, Tryz.ntmps67
    go_wp2_with fail
    refine hIF.mono ?_
    rintro e w1 ⟨rfl, hf1⟩
    go_wp2_with fail
    go_ret
    exact ⟨by rw [hkl.out]; rfl, hres.out _ hf1⟩
  · rw [h1] at hIF
    have hkx : k < xs.length := (List.getElem?_eq_some_iff.1 h2).1
    have hkk : keepL p (xs.take k) = xs.take k := by
      unfold keepL
      refine List.filter_eq_self.2 (fun y hy => ?_)
      obtain ⟨j, hj⟩ := List.getElem?_of_mem hy
      rw [List.getElem?_take] at hj
      split at hj
      · rename_i hjk; rw [h4 j y hjk hj]; rfl
      · simp at hj
    have hst : ∀ W', Fr W W' → DelI enc p xs W g k (k + 1) (xs.map enc) W' := fun W' hW' => by
      have e := keepL_snoc (p := p) h2
      rw [if_pos h3, hkk] at e
      exact ⟨hx.fx (p := fun _ => False) (Fx.of_fr hW') (fun e => e), by rw [List.length_map], by omega, hkx, by rw [e, List.length_take]; omega, by rw [e, List.map_take], by rw [List.map_drop], Fx.of_fr hW'⟩
    have hne : ((k : Int) == -1) = false := beq_false_of_ne (by omega)
    have hzc : ∀ m, (Builtin.zeroCells (Value.agg #[.int .i64 0, .slice none 0 0]).cells m).toList.length = m * 2 := fun m => by rw [Array.length_toList, size_zeroCells]; rfl
    have hz1 : ∀ m v, v ∈ (Builtin.zeroCells (Value.agg #[.int .i64 0, .slice none 0 0]).cells m).toList → v.oneCell' = true := fun m v hv => by
      have hv := Array.mem_toList_iff.1 hv
      unfold Builtin.zeroCells at hv
      obtain ⟨q, -, rfl⟩ := Array.mem_map.1 hv
      show (#[(Value.int .i64 0), .slice none 0 0][q % 2]!).oneCell' = true
      rcases Nat.mod_two_eq_zero_or_one q with h | h <;> rw [h] <;> rfl
    have hkn : k < n := by rw [hn]; exact hkx
    replace hp := Lib.hid hp
    replace hn := Lib.hid hn
    replace hst := Lib.hid hst
    replace hIF := Lib.hid hIF
    replace hzc := Lib.hid hzc
    replace hz1 := Lib.hid hz1
    replace hone := Lib.hid hone
    clear h1 h2 h3 h4 hx hkk hkx
    go_enter Tryz.func67, Tryz.ntmps67
    go_wp2_with fail
    refine hIF.out.mono ?_
    rintro e w1 ⟨rfl, hf1⟩
    have hst1 := hst.out w1 hf1
    clear hst hIF hf1
    replace hst1 := Lib.hid hst1
    go_wp2_with fail
    go_loopg [5, 6] n (fun gg s5 s6 wr => ∃ (i j : Nat) (L : List (Value × Value)), s5 = .int .i64 i ∧ s6 = .int .i64 j ∧ j + gg ≤ n + n ∧ n ≤ j + gg ∧ Hid (DelI enc p xs W g i j L wr))
    case atStart => exact ⟨k, k + 1, _, rfl, by go_num, by omega, by omega, hst1⟩
    case round =>
      clear hst1
      obtain ⟨i, j, L, rfl, rfl, hg1, hg2, hI⟩ := hrel
      have hij := hI.out.lt
      have hjn := hI.out.le
      rw [← hn.out] at hjn
      by_cases hj : j < n
      · have hdJ : decide (j < n) = true := decide_eq_true hj
        obtain ⟨x, hxj⟩ : ∃ x, xs[j]? = some x := ⟨_, List.getElem?_eq_getElem (by rw [← hn.out]; exact hj)⟩
        obtain ⟨c1, c2⟩ := hI.out.at hxj
        obtain ⟨u, v, i1, i2, i3, i4⟩ := hI.out.there (k := i) (by rw [← hn.out]; omega)
        have hpx := hp.out x (List.mem_of_getElem? hxj)
        have hskip := fun w2 hp => hI.out.skip (w2 := w2) hxj hp
        have hput := fun w2 hp => hI.out.put (w2 := w2) hxj hp
        have hfx := hI.out.fx
        have hgl := hI.out.cnt.1
        clear hxj hI
        obtain ⟨zi, za, zn, zc, hz⟩ := hone.out x
        generalize p x = px at *
        rw [hz] at c1 c2 hput
        simp only at c1 c2 hput
        have hbA : Fr wr (wr.alloc (.cells #[.int .i64 zi, .slice za zn zc] 50)) := (Fr.refl wr).alloc _
        have hcall := hpx (wr.alloc (.cells #[.int .i64 zi, .slice za zn zc] 50)) (hfx.fr hbA)
        rw [hz] at hcall
        simp only at hcall
        have k1 := hbA.keep c1
        have k2 := hbA.keep c2
        have n1 := new2a wr (.int .i64 zi) (.slice za zn zc) 50
        have n2 := new2b wr (.int .i64 zi) (.slice za zn zc) 50
        clear hz hpx
        have y1 : (j : Int) < (n : Int) := by omega
        have y0 : (0 : Int) ≤ (j : Int) := by omega
        have y2 : (i : Int) < (n : Int) := by omega
        have y3 : (0 : Int) ≤ (i : Int) := by omega
        replace hcall := Lib.hid hcall
        replace hskip := Lib.hid hskip
        replace hput := Lib.hid hput
        replace hbA := Lib.hid hbA
        replace n1 := Lib.hid n1.1
        replace n2 := Lib.hid n2.1
        replace k1 := Lib.hid k1
        replace k2 := Lib.hid k2
        go_wp2_with fail
        refine hcall.out.mono ?_
        rintro e w2 ⟨rfl, hf2⟩
        have hfw := hbA.out.trans hf2
        have m1 := hf2.keep n1.out
        have m2 := hf2.keep n2.out
        have j1 := hfw.keep i1
        have j2 := hfw.keep i2
        have j3 := hfw.keepf i1 i3
        have j4 := hfw.keepf i2 i4
        cases px with
        | true =>
          have hI2 := Lib.hid (hskip.out w2 rfl hfw)
          clear hskip hput
          go_wp2_with fail
          go_roundg (gk - 1)
          case measure => omega
          case rel => exact ⟨i, j + 1, L, rfl, by go_num, by omega, by omega, hI2⟩
        | false =>
          have hI2 := Lib.hid (hput.out w2 rfl hfw)
          clear hskip hput
          have e1 : (⟨g, i * 2, none⟩ : Addr) ≠ ⟨g, i * 2 + 1, none⟩ := fun e => by injection e with _ e; omega
          have s2 : (w2.setCell ⟨g, i * 2, none⟩ (.int .i64 zi)).cell? ⟨g, i * 2 + 1, none⟩ = some v := by rw [World.cell?_setCell_other _ _ _ _ e1]; exact j2
          have s3 : (w2.setCell ⟨g, i * 2, none⟩ (.int .i64 zi)).frozen? ⟨g, i * 2 + 1, none⟩ = false := by rw [World.frozen?_setCell]; exact j4
          clear c1 c2 i1 i2 i3 i4
          go_wp2_with fail
          go_roundg (gk - 1)
          case measure => omega
          case rel => exact ⟨i + 1, j + 1, _, by go_num, by go_num, by omega, by omega, hI2⟩
      · obtain rfl : j = n := by omega
        have hdJ : decide (j < j) = false := decide_eq_false (by omega)
        have hI2 := hI.out
        clear hI
        have hxx : xs.take j = xs := List.take_of_length_le (by rw [← hn.out]; exact Nat.le_refl _)
        have hnum := hI2.num
        have hlow := hI2.low
        rw [hxx] at hnum hlow
        have hmn : 0 < j - i := by omega
        have hLl := hI2.len
        rw [← hn.out] at hLl
        have hcc : ∀ q, q < (Builtin.zeroCells (Value.agg #[.int .i64 0, .slice none 0 0]).cells (j - i)).toList.length → (wr.cell? ⟨g, i * 2 + q, none⟩).isSome = true ∧ wr.frozen? ⟨g, i * 2 + q, none⟩ = false := fun q hq => by
          rw [hzc.out] at hq
          have hfl := flat2_length L
          have h5 := hI2.cnt.2 (i * 2 + q) _ (List.getElem?_eq_getElem (by rw [hfl, hLl]; omega))
          exact ⟨by rw [h5.1]; rfl, h5.2⟩
        have hclr := fun ty => run_clear_cells (P := Tryz.prog) wr 64 50 ty _ Tryz.underlying64 Tryz.zeroValue50 g (i * 2) (j - i) (cap - i) hmn (hz1.out (j - i)) (fun q hq => (hcc q hq).1) (fun q hq => (hcc q hq).2)
        generalize hwz : wr.setCells g (i * 2) (Builtin.zeroCells (Value.agg #[.int .i64 0, .slice none 0 0]).cells (j - i)).toList = wz at hclr
        have hFz : Fx (· = g) W wz := by rw [← hwz]; exact fx_setCells (p := (· = g)) (b := g) rfl _ _ _ _ hI2.fx
        have hFg : g < wz.heap.size := by
          have h6 : Fx (· = g) wr wz := by rw [← hwz]; exact fx_setCells (p := (· = g)) (b := g) rfl _ _ _ _ (Fx.refl _ _)
          exact Nat.lt_of_lt_of_le hI2.cnt.1 h6.size
        have hres := Lib.hid (show Prs wz (some ⟨g, 0, none⟩) ((keepL p xs).map enc) from by
          rw [← hlow]
          refine .inr ⟨g, 0, rfl, hFg, fun q y hy => ?_⟩
          rw [List.getElem?_take] at hy
          split at hy
          · rename_i hqi
            obtain ⟨a, b⟩ := flat2_get L q y hy
            rw [Nat.zero_add]
            have o1 := World.cell?_setCells_out g (Builtin.zeroCells (Value.agg #[.int .i64 0, .slice none 0 0]).cells (j - i)).toList (i * 2) wr ⟨g, q * 2, none⟩ (fun _ _ => .inl (show q * 2 < i * 2 by omega))
            have o2 := World.cell?_setCells_out g (Builtin.zeroCells (Value.agg #[.int .i64 0, .slice none 0 0]).cells (j - i)).toList (i * 2) wr ⟨g, q * 2 + 1, none⟩ (fun _ _ => .inl (show q * 2 + 1 < i * 2 by omega))
            rw [hwz] at o1 o2
            rw [o1, o2]
            exact ⟨(hI2.cnt.2 _ _ a).1, (hI2.cnt.2 _ _ b).1⟩
          · simp at hy)
        clear hwz hcc hI2 hxx hlow hLl
        replace hnum := Lib.hid hnum
        have y2 : (i : Int) < (j : Int) := by omega
        have y3 : (0 : Int) ≤ (i : Int) := by omega
        have y4 : (i : Int) < (cap : Int) := by omega
        have y5 : (j : Int) ≤ (cap : Int) := by omega
        go_wp2_with fail
        go_ret
        exact ⟨by rw [hnum.out]; rfl, hres.out, hFz⟩
end Go.Proofs.YtbpfkmpkadimeaaGreatDoor

/- spelling.Enharmonic. -/
namespace Go.Proofs.YtbpfkmpkadimeaaGreatDoor
open Go.RowKit Go.Lib
attribute [local go_sem ↓] Go.wp_at_zero Go.wp_at_succ

theorem El.fxlt {α : Type} {w0 W W' : World} {enc : α → Value} {a : Option Addr} {xs : List α} {g : Nat} (h : El w0 enc a xs) (hf : Fr w0 W) (k : Fx (· = g) W W') (hg : w0.heap.size ≤ g) : El W' enc a xs := by
  rcases h with h | ⟨b, o, ha, hb, hc⟩
  · exact .inl h
  · have hb2 := Nat.lt_of_lt_of_le hb hf.size
    exact .inr ⟨b, o, ha, Nat.lt_of_lt_of_le hb2 k.size, fun i x hx => k.keep (hf.keep (hc i x hx)) (fun e => by have e : b = g := e; omega)⟩

/-- is it another spelling -/
def eqS (s : Int × List Int) (x : BX) : Bool := decide (ordS s (stI (stripX x)) = 0)

set_option maxRecDepth 100000 in
set_option maxHeartbeats 1000000 in
theorem Enh1_any (s : Int × List Int) (ca : Option Addr) (cc p : Nat) (x : BX) (W : World) (hc1 : W.cell? ⟨p, 0, none⟩ = some (.int .i64 s.1)) (hc2 : W.cell? ⟨p, 1, none⟩ = some (.slice ca s.2.length cc)) (hs : El W iv ca s.2) (hx : El W iv (some ⟨x.g, 0, none⟩) x.cs)
    (hl : s.2.length ≤ 64) (hl2 : x.cs.length ≤ 64) (hb : ∀ c, c ∈ s.2 → fitB c = true) (hb2 : ∀ c, c ∈ x.cs → fitB c = true) :
    Calls Tryz.prog 68 #[.agg #[.int .i64 x.i, .slice (some ⟨x.g, 0, none⟩) x.cs.length x.c], .pointer (some ⟨p, 0, none⟩)] W fun e W' => e = .returned (.bool (eqS s x)) ∧ Fr W W' := by
  have hord := fun W' (hW' : Fr W W') => order_any s (stI (stripX x)) ca (some ⟨x.g, 0, none⟩) cc x.c W' (hs.fr hW') (hx.fr hW') hl hl2 hb hb2
  have hq : eqS s x = decide (ordS s (stI (stripX x)) = 0) := rfl
  generalize ordS s (stI (stripX x)) = r at *
  have hA : Fr W (W.alloc (.cells #[.int .i64 x.i, .slice (some ⟨x.g, 0, none⟩) x.cs.length x.c] 50)) := (Fr.refl W).alloc _
  have k1 := hA.keep hc1
  have k2 := hA.keep hc2
  have n1 := new2a W (.int .i64 x.i) (.slice (some ⟨x.g, 0, none⟩) x.cs.length x.c) 50
  have n2 := new2b W (.int .i64 x.i) (.slice (some ⟨x.g, 0, none⟩) x.cs.length x.c) 50
  have hq2 : ((r : Int) == 0) = eqS s x := by rw [hq]; by_cases h : r = 0 <;> simp [h]
  have hcall := hord _ hA
  rw [hq]
  change Calls Tryz.prog 69 #[.agg #[.int .i64 s.1, .slice ca s.2.length cc], .agg #[.int .i64 x.i, .slice (some ⟨x.g, 0, none⟩) x.cs.length x.c]] _ _ at hcall
  generalize x.cs.length = xl at *
  generalize s.2.length = sl at *
  clear hord hs hx hb hb2 hq hc1 hc2
  replace hq2 := Lib.hid hq2
  replace hcall := Lib.hid hcall
  replace hA := Lib.hid hA
  go_enter Tryz.func68, Tryz.ntmps68
  go_wp2_with fail
  refine hcall.out.mono ?_
  rintro e w2 ⟨rfl, hf2⟩
  go_wp2_with fail
  go_ret
  refine ⟨?_, hA.out.trans hf2.fr⟩
  show Ending.returned (.bool (r == 0)) = _
  by_cases h : r = 0 <;> simp [h]

/-- spellings that have come back -/
def SpRetE (w : World) (L : List (Nat × List Int)) (err : Int) (e : Ending) (w' : World) : Prop :=
  (err = 0 → ∃ a c, ∃ xs : List BX, e = .returned (.tuple #[.slice a xs.length c, .int .i64 0]) ∧ Prs w' a (xs.map BX.enc2) ∧ (∀ x, x ∈ xs → El w' iv (some ⟨x.g, 0, none⟩) x.cs) ∧ xs.map stripX = L) ∧ (err ≠ 0 → e = .returned (.tuple #[.slice none 0 0, .int .i64 err])) ∧ Fr w w'
/-- the first error of Enharmonic, the notation being right -/
def enhE (N A : List Sy) (i : Int) (cs : List Int) (most : Int) : Int := if spE N A i cs ≠ 0 then spE N A i cs else boundE N.length A.length most
def enhL (N A : List Sy) (s : Nat × List Int) (m : Nat) : List (Nat × List Int) := (allL N A (sumS N A s) m).filter fun t => !decide (ordS (stI s) (stI t) = 0)

theorem keep_map (s : Int × List Int) (K : List BX) : (keepL (eqS s) K).map stripX = (K.map stripX).filter fun t => !decide (ordS s (stI t) = 0) := by
  unfold keepL; rw [List.filter_map]; rfl
theorem OwnSp.cnt {w : World} {base g c : Nat} {xs : List BX} (h : OwnSp w base (some ⟨g, 0, none⟩) c xs) : Cnt w g (flat2 (xs.map BX.enc2)) ∧ xs.length ≤ c ∧ base ≤ g := by
  obtain ⟨-, h1, h2, h3, h4⟩ := ownsRow_some h.own
  exact ⟨⟨h2, h4⟩, h3, h1⟩
theorem OwnSp.addr {w : World} {base : Nat} {a : Option Addr} {c : Nat} {xs : List BX} (h : OwnSp w base a c xs) : (a = none ∧ c = 0 ∧ xs = []) ∨ ∃ g, a = some ⟨g, 0, none⟩ := by
  rcases h.own.2 with ⟨h1, h2⟩ | ⟨g, cap, cur, hv, _⟩
  · injection h1 with h1 h3 h4
    exact .inl ⟨h1, h4, List.eq_nil_of_length_eq_zero h2⟩
  · injection hv with hv
    exact .inr ⟨g, hv⟩
theorem DeleteFunc_nil (gF : Nat) (lb : Array Value) (W : World) (eg : ∀ args w, (callFunc gF args).run Tryz.prog w = .ok (.enter gF args) w) :
    Calls Tryz.prog 67 #[.slice none 0 0, .func (.func gF) #[] lb] W fun e W' => e = .returned (.slice none 0 0) ∧ Fr W W' := by
  have hIF := IndexFunc_spl BX.enc2 [] none 0 gF lb (fun _ => false) W eg (.inl rfl) (by simp) (fun x W' hm => by simp at hm)
  rw [show idx (fun _ : BX => false) [] = -1 from rfl] at hIF
  replace hIF := Lib.hid hIF
  clear eg
  go_enter Tryz.func67, Tryz.ntmps67
  go_wp2_with fail
  refine hIF.out.mono ?_
  rintro e w1 ⟨rfl, hf1⟩
  go_wp2_with fail
  go_ret
  exact ⟨rfl, hf1⟩
/-- DeleteFunc of the spellings that another one is -/
theorem DelEnh (s : Int × List Int) (ca : Option Addr) (cc p : Nat) (a : Option Addr) (c : Nat) (K : List BX) (base : Nat) (w0 W : World) (hown : OwnSp W base a c K) (hw0 : Fr w0 W) (hb0 : w0.heap.size ≤ base) (hp : p < w0.heap.size) (hc1 : w0.cell? ⟨p, 0, none⟩ = some (.int .i64 s.1)) (hc2 : w0.cell? ⟨p, 1, none⟩ = some (.slice ca s.2.length cc)) (hs : El w0 iv ca s.2)
    (hl : s.2.length ≤ 64) (hb : ∀ c, c ∈ s.2 → fitB c = true) (hl2 : ∀ x, x ∈ K → x.cs.length ≤ 64) (hb2 : ∀ x, x ∈ K → ∀ c, c ∈ x.cs → fitB c = true) (hK : K.length ≤ 1000000) :
    Calls Tryz.prog 67 #[.slice a K.length c, .func (.func 68) #[] #[.pointer (some ⟨p, 0, none⟩)]] W fun e W' => ∃ c' : Nat, ∃ K' : List BX, K' = keepL (eqS s) K ∧ e = .returned (.slice a K'.length c') ∧ Prs W' a (K'.map BX.enc2) ∧ (∀ x, x ∈ K' → El W' iv (some ⟨x.g, 0, none⟩) x.cs) ∧ Fr w0 W' := by
  have eg : ∀ args w, (callFunc 68 args).run Tryz.prog w = .ok (.enter 68 args) w := enters_of Tryz.func68 (by kernel_rfl) rfl
  rcases hown.addr with ⟨rfl, rfl, rfl⟩ | ⟨g, rfl⟩
  · refine (DeleteFunc_nil 68 #[.pointer (some ⟨p, 0, none⟩)] W eg).mono ?_
    rintro e W' ⟨rfl, hf⟩
    exact ⟨0, [], rfl, rfl, .inl rfl, fun x hx => by simp at hx, hw0.trans hf⟩
  · obtain ⟨hcnt, hcap, hg⟩ := hown.cnt
    refine (DeleteFunc_spl BX.enc2 K g c 68 #[.pointer (some ⟨p, 0, none⟩)] (eqS s) W eg hcnt (by omega) hcap (fun x => ⟨_, _, _, _, rfl⟩) (fun x hx W' hW' => ?_)).mono ?_
    · obtain ⟨e1, e2, e3, e4⟩ := hown.el x hx
      have hpg : ¬ p = g := by omega
      exact Enh1_any s ca cc p x W' (hW'.keep (hw0.keep hc1) hpg) (hW'.keep (hw0.keep hc2) hpg) (hs.fxlt hw0 hW' (by omega)) (e4.fx hW' (fun e => e3 (by rw [show x.g = g from e]; rfl))) hl (hl2 x hx) hb (hb2 x hx)
    · rintro e W' ⟨rfl, h1, h2⟩
      refine ⟨c, _, rfl, rfl, h1, fun x hx => ?_, ((Fx.of_fr hw0).trans h2).toFr (fun k hk e => by have e : k = g := e; omega)⟩
      obtain ⟨e1, e2, e3, e4⟩ := hown.el x (List.mem_filter.1 hx).1
      exact e4.fx h2 (fun e => e3 (by rw [show x.g = g from e]; rfl))

set_option maxRecDepth 100000 in
set_option maxHeartbeats 4000000 in
theorem Enharmonic_any (d : Nat) (aN aA : Option Addr) (cN cA : Nat) (N A : List Sy) (x : Sp) (most : Int) (w : World) (hn : NotIs w aN aA cA N A) (hok : NotOk d N A) (hd : 1 ≤ d) (hcs : El w iv x.ca x.cs) (hl : x.cs.length ≤ 1000000000) (hm : boundE N.length A.length most = 0 → most ≤ 20000) :
    Calls Tryz.prog 26 #[.agg #[.slice aN N.length cN, .slice aA A.length cA], .agg #[.int .i64 x.i, .slice x.ca x.cs.length x.cc], .int .i64 most] w (SpRetE w (enhL N A (x.i.toNat, x.cs) most.toNat) (enhE N A x.i x.cs most)) := by
  have hn60 := hok.n60
  have ha6 := hok.a6
  have hd12 := hok.d12
  have hop := fun W (hW : Fr w W) => open_any d aN aA cN cA N A [x] (some ⟨W.heap.size, 0, none⟩) 1 (W.alloc (.cells #[.int .i64 x.i, .slice x.ca x.cs.length x.cc] 50)) (hn.fr (hW.alloc _)) hok (Sps.one W x _ (hcs.fr hW)) (by simp) (by simp; exact hl)
  simp only [spsE, List.length_cons, List.length_nil, Nat.zero_add] at hop
  have hbnd := fun W => bound_any aN aA cN cA N.length A.length most W (by omega) (by omega)
  by_cases h0 : spE N A x.i x.cs = 0
  · obtain ⟨i1, i2, i3, i4⟩ := spE_inv h0
    obtain ⟨xi, hxi⟩ : ∃ xi : Nat, x.i = xi := ⟨x.i.toNat, by omega⟩
    by_cases h1 : boundE N.length A.length most = 0
    · have h1p : 0 ≤ most := by
        by_cases h : most < 0
        · unfold boundE at h1; rw [if_pos h] at h1; omega
        · omega
      have h2 := hm h1
      obtain ⟨m, rfl⟩ : ∃ m : Nat, most = m := ⟨most.toNat, by omega⟩
      have h3 := boundE_size hn60 h1
      have hsum := fun W (hW : Fr w W) => sum_any d aN aA cN cA N A xi x.cs x.ca x.cc W (hn.fr hW) hok hd (by omega) (hcs.fr hW) i3 i4
      have hSl := sumS_length hok (i := xi) (by omega) x.cs
      have hall := fun W (hW : Fr w W) a c (hel : El W iv a (sumS N A (xi, x.cs))) => all_any d aN aA cN cA N A (sumS N A (xi, x.cs)) a c m W (hn.fr hW) hok hd hel (by omega) (by omega) (by rw [boxL_size]; omega)
      have hmem : ∀ K : List BX, K.map stripX = sortS ((boxL m A.length N.length).filter fun s => decide (sumS N A s = sumS N A (xi, x.cs))) → K.length ≤ 1000000 ∧ ∀ y, y ∈ K → y.cs.length ≤ 64 ∧ ∀ c, c ∈ y.cs → fitB c = true := fun K hK => by
        have hl9 := (sortS_perm ((boxL m A.length N.length).filter fun s => decide (sumS N A s = sumS N A (xi, x.cs)))).length_eq
        rw [← hK, List.length_map] at hl9
        have hl8 := List.length_filter_le (fun s => decide (sumS N A s = sumS N A (xi, x.cs))) (boxL m A.length N.length)
        rw [boxL_size] at hl8
        refine ⟨by omega, fun y hy => ?_⟩
        have hy2 : stripX y ∈ K.map stripX := List.mem_map_of_mem hy
        rw [hK] at hy2
        obtain ⟨-, m2, m3⟩ := boxL_mem (List.mem_filter.1 ((sortS_perm _).mem_iff.1 hy2)).1
        have m2 : y.cs.length = A.length := m2
        exact ⟨by omega, fun c hc => by have := m3 c hc; unfold fitB; exact decide_eq_true (by omega)⟩
      have hres : enhL N A (x.i.toNat, x.cs) (m : Int).toNat = (sortS ((boxL m A.length N.length).filter fun s => decide (sumS N A s = sumS N A (xi, x.cs)))).filter fun t => !decide (ordS (x.i, x.cs) (stI t) = 0) := by
        unfold enhL allL
        rw [hxi]
        rfl
      have hres2 : enhE N A x.i x.cs (m : Int) = 0 := by unfold enhE; rw [if_neg (by simp [h0]), h1]
      have hcl64 : x.cs.length ≤ 64 := by omega
      rw [hres, hres2]
      simp only [h0, if_true] at hop
      rw [h1] at hbnd
      rw [← hSl] at hd12
      generalize sortS ((boxL m A.length N.length).filter fun s => decide (sumS N A s = sumS N A (xi, x.cs))) = L at *
      generalize sumS N A (xi, x.cs) = R at *
      generalize N.length = nN at *
      generalize A.length = nA at *
      rw [hxi] at hop
      rw [hxi]
      have hdel := fun (a : Option Addr) (c : Nat) (K : List BX) (base : Nat) (w0 W : World) (p : Nat) (h1 : OwnSp W base a c K) (h2 : Fr w0 W) (h3 : w0.heap.size ≤ base) (h4 : p < w0.heap.size) (h5 : w0.cell? ⟨p, 0, none⟩ = some (.int .i64 xi)) (h6 : w0.cell? ⟨p, 1, none⟩ = some (.slice x.ca x.cs.length x.cc)) (hw : Fr w w0) (hK : K.map stripX = L) => DelEnh ((xi : Int), x.cs) x.ca x.cc p a c K base w0 W h1 h2 h3 h4 h5 h6 (hcs.fr hw) hcl64 i4 (fun y hy => ((hmem K hK).2 y hy).1) (fun y hy => ((hmem K hK).2 y hy).2) (hmem K hK).1
      generalize x.cs.length = cl at *
      generalize x.ca = ca at *
      generalize x.cc = cc at *
      replace hop := Lib.hid hop
      replace hsum := Lib.hid hsum
      replace hall := Lib.hid hall
      replace hdel := Lib.hid hdel
      replace hbnd := Lib.hid hbnd
      clear hn hok hcs i1 i2 i3 i4 hxi hmem hres hres2 hm h0 h1 h2 h3 hSl
      have b1 := new2a w (.slice aN nN cN) (.slice aA nA cA) 31
      have b2 := new2b w (.slice aN nN cN) (.slice aA nA cA) 31
      have hfa : Fr (w.alloc (.cells #[.slice aN nN cN, .slice aA nA cA] 31)) ((w.alloc (.cells #[.slice aN nN cN, .slice aA nA cA] 31)).alloc (.cells #[.int .i64 xi, .slice ca cl cc] 50)) := (Fr.refl _).alloc _
      have b3 := new2a (w.alloc (.cells #[.slice aN nN cN, .slice aA nA cA] 31)) (.int .i64 xi) (.slice ca cl cc) 50
      have b4 := new2b (w.alloc (.cells #[.slice aN nN cN, .slice aA nA cA] 31)) (.int .i64 xi) (.slice ca cl cc) 50
      rw [show (w.alloc (.cells #[.slice aN nN cN, .slice aA nA cA] 31)).heap.size = w.heap.size + 1 by simp] at b3 b4
      replace b1 := Lib.hid (hfa.keep b1.1)
      replace b2 := Lib.hid (hfa.keep b2.1)
      replace b3 := Lib.hid b3.1
      replace b4 := Lib.hid b4.1
      have hfb : Fr w _ := ((Fr.refl w).alloc _).trans hfa
      replace hfb := Lib.hid hfb
      have hsB := hfb.out.size
      clear hfa
      have hop1 := hop.out _ hfb.out
      rw [show ((w.alloc (.cells #[.slice aN nN cN, .slice aA nA cA] 31)).alloc (.cells #[.int .i64 xi, .slice ca cl cc] 50)).heap.size = w.heap.size + 2 by simp] at hop1
      replace hop1 := Lib.hid hop1
      clear hop
      go_enter Tryz.func26, Tryz.ntmps26
      go_wp2_with fail
      refine hop1.out.mono ?_
      rintro e w1 ⟨rfl, hf1⟩
      have hfc := ((Fr.refl _).alloc _).trans hf1
      have q1 := hfc.keep b1.out
      have q2 := hfc.keep b2.out
      have q3 := hfc.keep b3.out
      have q4 := hfc.keep b4.out
      have hfd := hfb.out.trans hfc
      clear hfc hf1 b1 b2 b3 b4 hfb
      go_wp2_with fail
      refine (hbnd.out _).mono ?_
      rintro e w2 ⟨rfl, hf2⟩
      replace q1 := hf2.keep q1
      replace q2 := hf2.keep q2
      replace q3 := hf2.keep q3
      replace q4 := hf2.keep q4
      have hfe := hfd.trans hf2
      have hbs := World.block_lt_of_cell? w2 _ q3
      clear hf2 hfd
      go_wp2_with fail
      go_region_held3 (fun w' => w'.cell? ⟨w.heap.size, 0, none⟩ = some (.slice aN nN cN) ∧ w'.cell? ⟨w.heap.size, 1, none⟩ = some (.slice aA nA cA) ∧ w'.cell? ⟨w.heap.size + 1, 0, none⟩ = some (.int .i64 xi) ∧ w'.cell? ⟨w.heap.size + 1, 1, none⟩ = some (.slice ca cl cc))
        (first | go_keep | (go_split_ands; refine ⟨?_, ?_, ?_, ?_⟩ <;> (refine Fr.keep (by assumption) ?_; assumption)))
        (first
          | (go_at_call 64; (with_reducible refine (hsum.out _ ?_).mono ?_); (repeat (with_reducible first | assumption | exact Fr.refl _ | refine Fr.drew ?_ | refine Fr.drewN ?_ _ | refine Fr.alloc ?_ _ | (refine Fr.setCell ?_ (by simp only [World.size_alloc, World.size_drew, World.size_setCell]; omega) _) | refine Fr.trans ?_ (by assumption))); rintro e w3 ⟨g1, c1, rfl, hg1, hel1, hf3⟩)
          | (go_at_call 66; have hz3 : Fr w w3 := (by repeat (with_reducible first | assumption | exact Fr.refl _ | refine Fr.drew ?_ | refine Fr.drewN ?_ _ | refine Fr.alloc ?_ _ | (refine Fr.setCell ?_ (by simp only [World.size_alloc, World.size_drew, World.size_setCell]; omega) _) | refine Fr.trans ?_ (by assumption))); refine (hall.out w3 hz3 _ _ hel1).mono ?_; rintro e w4 ⟨a4, c4, K, rfl, hown4, hK4, hf4⟩; clear hz3; replace hK4 := Lib.hid hK4)
          | (go_at_call 67; have hz4 : Fr w2 w4 := (by repeat (with_reducible first | assumption | exact Fr.refl _ | refine Fr.drew ?_ | refine Fr.drewN ?_ _ | refine Fr.alloc ?_ _ | (refine Fr.setCell ?_ (by simp only [World.size_alloc, World.size_drew, World.size_setCell]; omega) _) | refine Fr.trans ?_ (by assumption))); have hz6 : Fr w2 w3 := (by repeat (with_reducible first | assumption | exact Fr.refl _ | refine Fr.drew ?_ | refine Fr.drewN ?_ _ | refine Fr.alloc ?_ _ | (refine Fr.setCell ?_ (by simp only [World.size_alloc, World.size_drew, World.size_setCell]; omega) _) | refine Fr.trans ?_ (by assumption))); have hz5 := hz6.size; refine (hdel.out a4 c4 K w3.heap.size w2 w4 (w.heap.size + 1) hown4 hz4 hz5 hbs q3 q4 hfe hK4.out).mono ?_; rintro e w5 ⟨c5, K5, hK5, rfl, hp5, he5, hf5⟩; replace hK5 := Lib.hid hK5; replace he5 := Lib.hid he5))
      all_goals
        have hmap := keep_map ((xi : Int), x.cs) K
        rw [← hK5.out, hK4.out] at hmap
        replace hmap := Lib.hid hmap
        go_wp2_with fail
        go_ret2
        exact ⟨fun _ => ⟨a4, c5, K5, rfl, hp5, he5.out, hmap.out⟩, fun h => absurd rfl h, hfe.trans hf5⟩
    · have hres2 : enhE N A x.i x.cs most = boundE N.length A.length most := by unfold enhE; rw [if_neg (by simp [h0])]
      rw [hres2]
      simp only [h0, if_true] at hop
      generalize enhL N A (x.i.toNat, x.cs) most.toNat = LL
      generalize boundE N.length A.length most = be at *
      generalize N.length = nN at *
      generalize A.length = nA at *
      generalize x.cs.length = cl at *
      generalize x.ca = ca at *
      generalize x.cc = cc at *
      generalize x.i = xi9 at *
      have q9 : (be != 0) = true := by rw [bne_iff_ne]; exact h1
      replace hop := Lib.hid hop
      replace hbnd := Lib.hid hbnd
      clear hn hok hcs i1 i2 i3 i4 hxi hres2 hm h0
      have b1 := new2a w (.slice aN nN cN) (.slice aA nA cA) 31
      have b2 := new2b w (.slice aN nN cN) (.slice aA nA cA) 31
      have hfa : Fr (w.alloc (.cells #[.slice aN nN cN, .slice aA nA cA] 31)) ((w.alloc (.cells #[.slice aN nN cN, .slice aA nA cA] 31)).alloc (.cells #[.int .i64 xi9, .slice ca cl cc] 50)) := (Fr.refl _).alloc _
      have b3 := new2a (w.alloc (.cells #[.slice aN nN cN, .slice aA nA cA] 31)) (.int .i64 xi9) (.slice ca cl cc) 50
      have b4 := new2b (w.alloc (.cells #[.slice aN nN cN, .slice aA nA cA] 31)) (.int .i64 xi9) (.slice ca cl cc) 50
      rw [show (w.alloc (.cells #[.slice aN nN cN, .slice aA nA cA] 31)).heap.size = w.heap.size + 1 by simp] at b3 b4
      replace b1 := Lib.hid (hfa.keep b1.1)
      replace b2 := Lib.hid (hfa.keep b2.1)
      replace b3 := Lib.hid b3.1
      replace b4 := Lib.hid b4.1
      have hfb : Fr w _ := ((Fr.refl w).alloc _).trans hfa
      replace hfb := Lib.hid hfb
      have hsB := hfb.out.size
      clear hfa
      have hop1 := hop.out _ hfb.out
      rw [show ((w.alloc (.cells #[.slice aN nN cN, .slice aA nA cA] 31)).alloc (.cells #[.int .i64 xi9, .slice ca cl cc] 50)).heap.size = w.heap.size + 2 by simp] at hop1
      replace hop1 := Lib.hid hop1
      clear hop
      go_enter Tryz.func26, Tryz.ntmps26
      go_wp2_with fail
      refine hop1.out.mono ?_
      rintro e w1 ⟨rfl, hf1⟩
      have hfc := ((Fr.refl _).alloc _).trans hf1
      have q1 := hfc.keep b1.out
      have q2 := hfc.keep b2.out
      have hfd := hfb.out.trans hfc
      clear hfc hf1 b1 b2 b3 b4 hfb
      go_wp2_with fail
      refine (hbnd.out _).mono ?_
      rintro e w2 ⟨rfl, hf2⟩
      go_wp2_with fail
      go_ret2
      exact ⟨fun h => absurd h h1, fun _ => rfl, hfd.trans hf2⟩
  · have hres2 : enhE N A x.i x.cs most = spE N A x.i x.cs := by unfold enhE; rw [if_pos h0]
    rw [hres2]
    simp only [if_neg h0] at hop
    generalize enhL N A (x.i.toNat, x.cs) most.toNat = LL
    generalize spE N A x.i x.cs = er at *
    generalize N.length = nN at *
    generalize A.length = nA at *
    generalize x.cs.length = cl at *
    generalize x.ca = ca at *
    generalize x.cc = cc at *
    generalize x.i = xi9 at *
    have q9 : (er != 0) = true := by rw [bne_iff_ne]; exact h0
    replace hop := Lib.hid hop
    clear hn hok hcs hres2 hm hbnd
    have b1 := new2a w (.slice aN nN cN) (.slice aA nA cA) 31
    have b2 := new2b w (.slice aN nN cN) (.slice aA nA cA) 31
    have hfa : Fr (w.alloc (.cells #[.slice aN nN cN, .slice aA nA cA] 31)) ((w.alloc (.cells #[.slice aN nN cN, .slice aA nA cA] 31)).alloc (.cells #[.int .i64 xi9, .slice ca cl cc] 50)) := (Fr.refl _).alloc _
    have b3 := new2a (w.alloc (.cells #[.slice aN nN cN, .slice aA nA cA] 31)) (.int .i64 xi9) (.slice ca cl cc) 50
    have b4 := new2b (w.alloc (.cells #[.slice aN nN cN, .slice aA nA cA] 31)) (.int .i64 xi9) (.slice ca cl cc) 50
    rw [show (w.alloc (.cells #[.slice aN nN cN, .slice aA nA cA] 31)).heap.size = w.heap.size + 1 by simp] at b3 b4
    replace b1 := Lib.hid (hfa.keep b1.1)
    replace b2 := Lib.hid (hfa.keep b2.1)
    replace b3 := Lib.hid b3.1
    replace b4 := Lib.hid b4.1
    have hfb : Fr w _ := ((Fr.refl w).alloc _).trans hfa
    replace hfb := Lib.hid hfb
    have hsB := hfb.out.size
    clear hfa
    have hop1 := hop.out _ hfb.out
    rw [show ((w.alloc (.cells #[.slice aN nN cN, .slice aA nA cA] 31)).alloc (.cells #[.int .i64 xi9, .slice ca cl cc] 50)).heap.size = w.heap.size + 2 by simp] at hop1
    replace hop1 := Lib.hid hop1
    clear hop
    go_enter Tryz.func26, Tryz.ntmps26
    go_wp2_with fail
    refine hop1.out.mono ?_
    rintro e w1 ⟨rfl, hf1⟩
    have hfd := hfb.out.trans (((Fr.refl _).alloc _).trans hf1)
    go_wp2_with fail
    go_ret2
    exact ⟨fun h => absurd h h0, fun _ => rfl, hfd⟩
end Go.Proofs.YtbpfkmpkadimeaaGreatDoor

/- The plain side of notations: NotOk and the list of spellings out of names and rows alone; the plans. -/
namespace Go.Proofs.YtbpfkmpkadimeaaGreatDoor
open Go.RowKit Go.Lib

/-- a right notation, of names and rows -/
structure NotOkP (d : Nat) (Ns As : List (ByteArray × List Int)) : Prop where
  n1 : 0 < Ns.length
  n60 : Ns.length ≤ 60
  a6 : As.length ≤ 6
  d12 : d ≤ 12
  row : ∀ x, x ∈ Ns ++ As → x.2.length = d
  fit : ∀ x, x ∈ Ns ++ As → ∀ y, y ∈ x.2 → fitB y = true
  nm : ∀ x, x ∈ Ns ++ As → isName x.1 = true
  dis : ∀ (i j : Nat) (x y : ByteArray × List Int), (Ns ++ As)[i]? = some x → (Ns ++ As)[j]? = some y → i < j → x.1 ≠ y.1
theorem NotOkP.ok {d : Nat} {Ns As : List (ByteArray × List Int)} {N A : List Sy} (h : NotOkP d Ns As) (hN : N.map plainSy = Ns) (hA : A.map plainSy = As) : NotOk d N A := by
  have hc : (N ++ A).map plainSy = Ns ++ As := by rw [List.map_append, hN, hA]
  have hm : ∀ x, x ∈ N ++ A → plainSy x ∈ Ns ++ As := fun x hx => by rw [← hc]; exact List.mem_map_of_mem hx
  refine ⟨by have := h.n1; rw [← hN, List.length_map] at this; exact this, by have := h.n60; rw [← hN, List.length_map] at this; exact this, by have := h.a6; rw [← hA, List.length_map] at this; exact this, h.d12, fun x hx => h.row _ (hm x hx), fun x hx => h.fit _ (hm x hx), fun x hx => h.nm _ (hm x hx), fun i j x y hx hy hij => ?_⟩
  refine h.dis i j (plainSy x) (plainSy y) ?_ ?_ hij
  · rw [← hc, List.getElem?_map, hx]; rfl
  · rw [← hc, List.getElem?_map, hy]; rfl

/-- the sums, of rows alone -/
def sumR (Nr Ar : List (List Int)) (s : Nat × List Int) : List Int := sumL ((Nr[s.1]?).getD []) s.2 Ar
def allR (Nr Ar : List (List Int)) (R : List Int) (m : Nat) : List (Nat × List Int) := sortS ((boxL m Ar.length Nr.length).filter fun s => decide (sumR Nr Ar s = R))
theorem sumS_R (N A : List Sy) (s : Nat × List Int) : sumS N A s = sumR (N.map Sy.row) (A.map Sy.row) s := by
  unfold sumS sumR rowOf; rw [List.getElem?_map]
theorem allL_R (N A : List Sy) (R : List Int) (m : Nat) : allL N A R m = allR (N.map Sy.row) (A.map Sy.row) R m := by
  unfold allL allR
  rw [List.length_map, List.length_map]
  congr 1
  exact List.filter_congr (fun s _ => by rw [sumS_R])
theorem row_plain (N : List Sy) : N.map Sy.row = (N.map plainSy).map (·.2) := by rw [List.map_map]; rfl

/-- the law: what is within the lesser bound -/
theorem allR_grows (Nr Ar : List (List Int)) (R : List Int) (m : Nat) : (allR Nr Ar R (m + 1)).filter (fun s => inB m s.2) = allR Nr Ar R m := by
  unfold allR
  rw [sortS_filter, List.filter_filter]
  have e : ∀ s : Nat × List Int, (inB m s.2 && decide (sumR Nr Ar s = R)) = (decide (sumR Nr Ar s = R) && inB m s.2) := fun s => Bool.and_comm _ _
  simp only [e]
  rw [← List.filter_filter, boxL_filter]
theorem allR_mem {Nr Ar : List (List Int)} {R : List Int} {m : Nat} {s : Nat × List Int} (h : s ∈ allR Nr Ar R m) : s.1 < Nr.length ∧ s.2.length = Ar.length ∧ (∀ c, c ∈ s.2 → -(m : Int) ≤ c ∧ c ≤ m) ∧ sumR Nr Ar s = R := by
  unfold allR at h
  have h1 := (sortS_perm _).mem_iff.1 h
  obtain ⟨h2, h3⟩ := List.mem_filter.1 h1
  obtain ⟨a, b, c⟩ := boxL_mem h2
  exact ⟨a, b, c, of_decide_eq_true h3⟩
theorem allR_size (Nr Ar : List (List Int)) (R : List Int) (m : Nat) : (allR Nr Ar R m).length ≤ Nr.length * (2 * m + 1) ^ Ar.length := by
  unfold allR
  rw [(sortS_perm _).length_eq, ← boxL_size]
  exact List.length_filter_le _ _

/-! ### the plans -/
theorem symsMk_length (two : Bool) (rs : List Int) (a b : Nat) : (symsMk two rs a b).length = b - a := by unfold symsMk; simp
theorem symsMk_get (two : Bool) (rs : List Int) (a b i : Nat) (x : ByteArray × List Int) (h : (symsMk two rs a b)[i]? = some x) : a + i < b ∧ x = symMk two rs (a + i) := by
  unfold symsMk at h
  rw [List.getElem?_map, List.getElem?_drop] at h
  cases e : (List.range b)[a + i]? with
  | none => rw [e] at h; simp at h
  | some k =>
    rw [e] at h
    obtain ⟨h1, h2⟩ := List.getElem?_eq_some_iff.1 e
    simp at h2
    subst h2
    injection h with h
    exact ⟨by simpa using h1, h.symm⟩
theorem nmOf_ok : ∀ i, i < 7 → isName (nmOf i) = true
  | 0, _ => by decide
  | 1, _ => by decide
  | 2, _ => by decide
  | 3, _ => by decide
  | 4, _ => by decide
  | 5, _ => by decide
  | 6, _ => by decide
def nmB (i : Nat) : Nat := ((nmOf i).data[0]!).toNat
theorem nmOf_inj : ∀ i j, i < j → j < 7 → nmOf i ≠ nmOf j := fun i j hij hj e => by
  have h : nmB i = nmB j := by unfold nmB; rw [e]
  have key : ∀ j, j < 7 → ∀ i, i < j → nmB i ≠ nmB j := by decide
  exact key j hj i hij h
def dMk (two : Bool) : Nat := if two then 2 else 1
theorem rowMk_length (two : Bool) (rs : List Int) (i : Nat) : (rowMk two rs i).length = dMk two := by unfold rowMk dMk; cases two <;> rfl
theorem rowMk_fit (two : Bool) (rs : List Int) (i : Nat) : ∀ y, y ∈ rowMk two rs i → fitB y = true := fun y hy => by
  unfold rowMk at hy
  have key : ∀ a : Int, fitB (a.tmod 8) = true := fun a => by have := tmod8 (x := a); unfold fitB; exact decide_eq_true (by omega)
  rcases List.mem_cons.1 hy with rfl | hy
  · exact key _
  · cases two with
    | false => simp at hy
    | true => simp at hy; subst hy; exact key _
theorem plan_ok (two : Bool) (rs : List Int) (ln la : Nat) (h1 : 1 ≤ ln) (h2 : ln ≤ 4) (h3 : la ≤ 7) : NotOkP (dMk two) (symsMk two rs 0 ln) (symsMk two rs 4 la) := by
  have hg : ∀ (i : Nat) (x : ByteArray × List Int), (symsMk two rs 0 ln ++ symsMk two rs 4 la)[i]? = some x → ∃ k, k < 7 ∧ x = symMk two rs k ∧ k = (if i < ln then i else 4 + (i - ln)) := fun i x hx => by
    by_cases hi : i < ln
    · rw [List.getElem?_append_left (by rw [symsMk_length]; omega)] at hx
      obtain ⟨a, b⟩ := symsMk_get two rs 0 ln i x hx
      exact ⟨i, by omega, by rw [b, Nat.zero_add], by rw [if_pos hi]⟩
    · rw [List.getElem?_append_right (by rw [symsMk_length]; omega), symsMk_length] at hx
      obtain ⟨a, b⟩ := symsMk_get two rs 4 la _ x hx
      exact ⟨4 + (i - ln), by omega, by rw [b]; congr 1, by rw [if_neg hi]⟩
  have hm : ∀ x, x ∈ symsMk two rs 0 ln ++ symsMk two rs 4 la → ∃ k, k < 7 ∧ x = symMk two rs k := fun x hx => by
    obtain ⟨i, hi⟩ := List.getElem?_of_mem hx
    obtain ⟨k, a, b, _⟩ := hg i x hi
    exact ⟨k, a, b⟩
  refine ⟨by rw [symsMk_length]; omega, by rw [symsMk_length]; omega, by rw [symsMk_length]; omega, by unfold dMk; cases two <;> decide, fun x hx => ?_, fun x hx => ?_, fun x hx => ?_, fun i j x y hx hy hij => ?_⟩
  · obtain ⟨k, a, rfl⟩ := hm x hx; exact rowMk_length two rs k
  · obtain ⟨k, a, rfl⟩ := hm x hx; exact rowMk_fit two rs k
  · obtain ⟨k, a, rfl⟩ := hm x hx; exact nmOf_ok k a
  · obtain ⟨k, a, rfl, e⟩ := hg i x hx
    obtain ⟨l, b, rfl, f⟩ := hg j y hy
    refine nmOf_inj k l ?_ b
    rw [e, f]
    have hjj : j < ln + (la - 4) := by
      have := (List.getElem?_eq_some_iff.1 hy).1
      rw [List.length_append, symsMk_length, symsMk_length] at this
      omega
    by_cases c1 : i < ln <;> by_cases c2 : j < ln
    · rw [if_pos c1, if_pos c2]; exact hij
    · rw [if_pos c1, if_neg c2]; omega
    · omega
    · rw [if_neg c1, if_neg c2]; omega
end Go.Proofs.YtbpfkmpkadimeaaGreatDoor

/- spelling.Relations where the kernel has one row with a positive head. -/
namespace Go.Proofs.YtbpfkmpkadimeaaGreatDoor
open Go.RowKit Go.Lib
attribute [local go_sem ↓] Go.wp_at_zero Go.wp_at_succ

theorem infoMat : (Tryz.prog.info? 44).map (fun i => (i.zero, i.size, i.bytes)) = some (some (.slice none 0 0), 1, 24) := by kernel_rfl

/-- the cells of a matrix of ints -/
def rowVs (A : List Sy) : List Value := A.map fun x => .slice x.ra x.row.length x.rc
theorem rowVs_mat {w w' : World} {base : Nat} {g n cap : Nat} {A : List Sy} (h : w'.ownsRow base 44 1 (.slice (some ⟨g, 0, none⟩) n cap) n (rowVs A)) (hel : ∀ x, x ∈ A → El w iv x.ra x.row) (hf : Fr w w') : MatIs w' (some ⟨g, 0, none⟩) (A.map Sy.row) := by
  obtain ⟨-, -, hg, -, hc⟩ := ownsRow_some h
  refine .inr ⟨g, 0, rfl, hg, fun i xs hx => ?_⟩
  rw [List.getElem?_map] at hx
  cases hA : A[i]? with
  | none => rw [hA] at hx; simp at hx
  | some x =>
    rw [hA] at hx
    injection hx with hx
    subst hx
    refine ⟨x.ra, x.rc, ?_, (hel x (List.mem_of_getElem? hA)).fr hf⟩
    rw [Nat.zero_add]
    exact (hc i _ (by unfold rowVs; rw [List.getElem?_map, hA]; rfl)).1

def RelRet (w : World) (m : List (List Int)) (e : Ending) (w' : World) : Prop := ∃ a c, e = .returned (.tuple #[.slice a m.length c, .int .i64 0]) ∧ MatIs w' a m ∧ Fr w w'

set_option maxRecDepth 100000 in
set_option maxHeartbeats 4000000 in
theorem Relations_one (d F : Nat) (aN aA : Option Addr) (cN cA : Nat) (N A : List Sy) (x : Int) (xs : List Int) (w : World) (hG : G w) (hn : NotIs w aN aA cA N A) (hok : NotOk d N A) (hd : 1 ≤ d) (hA : 1 ≤ A.length) (hk : kerS F d (A.map Sy.row) = some [x :: xs]) (hx : 0 < x) (hxl : (x :: xs).length = A.length) (hfit : ∀ y, y ∈ x :: xs → fitB y = true) :
    Calls Tryz.prog 11 #[.agg #[.slice aN N.length cN, .slice aA A.length cA]] w (RelRet w [x :: xs]) := by
  obtain ⟨i0, hi, hz0, hz1, hz2⟩ := info_parts infoMat
  have hn60 := hok.n60
  have ha6 := hok.a6
  have hd12 := hok.d12
  have hchk := fun W (hW : Fr w W) => SCheck_ok d aN aA cN cA N A W (hn.fr hW) hok
  have hacc := hn.accs
  have htab : TabOk d (A.map Sy.row) := ⟨by rw [List.length_map]; omega, hd12, fun r hr => by obtain ⟨z, hz, rfl⟩ := List.mem_map.1 hr; exact hok.row z (List.mem_append_right _ hz), fun r hr y hy => by obtain ⟨z, hz, rfl⟩ := List.mem_map.1 hr; exact hok.fit z (List.mem_append_right _ hz) y hy⟩
  have hker := fun W (hW : Fr w W) a cap (hm : MatIs W a (A.map Sy.row)) => Kernel_any (A.map Sy.row) [x :: xs] a cap d F W (hG.fr hW) hm htab hd (by rw [List.length_map]; exact hA) hk
  have hof := fun W (hW : Fr w W) a cap (hm : MatIs W a [x :: xs]) => Of_one x xs a cap A.length W (hG.fr hW) hm ⟨by simp, by omega, fun r hr => by simp at hr; subst hr; exact hxl, fun r hr y hy => by simp at hr; subst hr; exact hfit y hy⟩ hx hA
  obtain ⟨n, hnn⟩ : ∃ n, n = A.length := ⟨_, rfl⟩
  rw [List.length_map] at hker
  have hone : ([x :: xs] : List (List Int)).length = 1 := rfl
  rw [← hnn] at hchk hker hof hA ha6 ⊢
  replace hchk := Lib.hid hchk
  replace hker := Lib.hid hker
  replace hof := Lib.hid hof
  replace hacc := Lib.hid hacc
  replace hnn := Lib.hid hnn
  replace hone := Lib.hid hone
  have p1 := new2a w (.slice aN N.length cN) (.slice aA n cA) 31
  have p2 := new2b w (.slice aN N.length cN) (.slice aA n cA) 31
  have hfA : Fr w (w.alloc (.cells #[.slice aN N.length cN, .slice aA n cA] 31)) := (Fr.refl w).alloc _
  replace hfA := Lib.hid hfA
  replace p1 := Lib.hid p1.1
  replace p2 := Lib.hid p2.1
  clear hn hok hk htab hfit hG
  go_enter Tryz.func11, Tryz.ntmps11
  go_wp2_with fail
  refine (hchk.out _ hfA.out).mono ?_
  rintro e w1 ⟨rfl, hf1⟩
  have q1 := hf1.keep p1.out
  have q2 := hf1.keep p2.out
  have hfw := hfA.out.trans hf1
  clear p1 p2 hfA hf1 hchk
  go_wp2_with fail
  go_loopg [5, 19] n (fun k s5 s19 wr => ∃ j : Nat, s19 = .int .i64 j ∧ j + k = n ∧ Fr w1 wr ∧ wr.ownsRow w1.heap.size 44 1 s5 j (rowVs (A.take j)))
  case atStart => exact ⟨0, rfl, by omega, Fr.refl _, World.ownsRow_nil _ _ _ _⟩
  case round =>
    obtain ⟨j, rfl, hjk, hf, hown⟩ := hrel
    by_cases hj : j < n
    · have hdJ : decide (j < n) = true := decide_eq_true hj
      obtain ⟨b, o, y, rfl, hb, hyj, hc1, hc2, -⟩ := (hacc.out.fr (hfw.trans hf)).at (i := j) (by rw [← hnn.out]; exact hj)
      have hsn : rowVs (A.take (j + 1)) = rowVs (A.take j) ++ [.slice y.ra y.row.length y.rc] := by unfold rowVs; rw [take_snoc hyj, List.map_append]; rfl
      generalize y.row.length = yl at *
      generalize y.ra = ya at *
      generalize y.rc = yc at *
      generalize y.nm = nm at *
      replace hsn := Lib.hid hsn
      clear hyj
      have a1 := new2a wr (.string nm) (.slice ya yl yc) 46
      have a2 := new2b wr (.string nm) (.slice ya yl yc) 46
      have y1 : (j : Int) < (n : Int) := by omega
      have y0 : (0 : Int) ≤ (j : Int) := by omega
      have hfB : Fr wr (wr.alloc (.cells #[.string nm, .slice ya yl yc] 46)) := (Fr.refl wr).alloc _
      have hownB := ownsRow_fr hown hfB
      replace hfB := Lib.hid hfB
      have hz9 := hf.size
      replace a1 := Lib.hid a1.1
      replace a2 := a2.1
      go_wp2_with (at_builtin; refine wpList_append_lies _ rfl _ _ 34 (by rfl) w1.heap.size 44 i0 _ 1 24 Tryz.underlying34 hi hz0 hz1 hz2 rfl (by decide) _ j _ (by rfl) (World.ownsRow.alloc hownB _) ⟨wr.heap.size + 1, 0, none⟩ 1 1 [.slice ya yl yc] (by rfl) rfl (cell_one_newN _ _ _ _ (by simp)) (by simp [Value.oneCell']) (by decide) (by unfold maxLen; omega) (by omega) (by simp; omega) (wr.heap.size + 1 + 1) (by simp) ?_; intro gA capA wA hownA hgrowA hatA hltA)
      rw [← hsn.out] at hownA
      have hfZ : Fr w1 wA := ((hf.trans hfB.out).alloc _).grown hgrowA (fun k e => ownsRow_own_ge hown k e)
      go_wp2_with fail
      go_roundg (gk - 1)
      case measure => omega
      case rel => exact ⟨j + 1, by go_num, by omega, hfZ, hownA⟩
    · obtain rfl : j = n := by omega
      have hdJ : decide (j < j) = false := decide_eq_false (by omega)
      obtain ⟨g, cap, rfl⟩ := ownsRow_pos hown hA
      rw [List.take_of_length_le (by rw [← hnn.out]; exact Nat.le_refl _)] at hown
      have hmat := rowVs_mat hown hacc.out.2 (hfw.trans hf)
      have hk1 := hker.out _ (hfw.trans hf) _ cap hmat
      replace hk1 := Lib.hid hk1
      clear hown hmat hker
      go_wp2_with fail
      refine hk1.out.mono ?_
      rintro e w2 ⟨a2, c2, rfl, hm2, hf2⟩
      rw [hone.out]
      have hl1 := hof.out w2 ((hfw.trans hf).trans hf2) a2 c2 hm2
      replace hl1 := Lib.hid hl1
      clear hof hm2
      go_wp2_with fail
      refine hl1.out.mono ?_
      rintro e w3 ⟨a3, c3, rfl, hm3, hf3⟩
      rw [hone.out]
      have hfin := Lib.hid (show ∀ W, Fr w3 W → RelRet w [x :: xs] (.returned (.tuple #[.slice a3 1 c3, .int .i64 0])) W from fun W hW => ⟨a3, c3, rfl, hm3 W (Fx.of_fr hW), ((hfw.trans hf).trans hf2).trans (hf3.trans hW)⟩)
      clear hm3
      go_wp2_with fail
      go_ret2
      exact hfin.out _ ((Fr.refl _).alloc _)
end Go.Proofs.YtbpfkmpkadimeaaGreatDoor

/- A slice of spellings that reads as a list. -/
namespace Go.Proofs.YtbpfkmpkadimeaaGreatDoor
open Go.RowKit Go.Lib
attribute [local go_sem ↓] Go.wp_at_zero Go.wp_at_succ
/-- spellings in memory -/
def BXs (w : World) (a : Option Addr) (xs : List BX) : Prop := Prs w a (xs.map BX.enc2) ∧ ∀ x, x ∈ xs → El w iv (some ⟨x.g, 0, none⟩) x.cs
theorem BXs.fr {w w' : World} {a : Option Addr} {xs : List BX} (h : BXs w a xs) (k : Fr w w') : BXs w' a xs := ⟨h.1.fr k, fun x hx => (h.2 x hx).fr k⟩
theorem BXs.at {w : World} {a : Option Addr} {xs : List BX} (h : BXs w a xs) {i : Nat} (hi : i < xs.length) :
    ∃ b o x, a = some ⟨b, o, none⟩ ∧ b < w.heap.size ∧ xs[i]? = some x ∧ w.cell? ⟨b, o + i * 2, none⟩ = some (.int .i64 x.i) ∧ w.cell? ⟨b, o + i * 2 + 1, none⟩ = some (.slice (some ⟨x.g, 0, none⟩) x.cs.length x.c) ∧ El w iv (some ⟨x.g, 0, none⟩) x.cs := by
  obtain ⟨b, o, z, ha, hb, hz, hc, hc2⟩ := h.1.at (i := i) (by rw [List.length_map]; exact hi)
  rw [List.getElem?_map, List.getElem?_eq_getElem hi] at hz
  injection hz with hz
  subst hz
  exact ⟨b, o, xs[i], ha, hb, List.getElem?_eq_getElem hi, hc, hc2, h.2 _ (List.getElem_mem hi)⟩
theorem OwnSp.bxs {w : World} {base : Nat} {a : Option Addr} {c : Nat} {xs : List BX} (h : OwnSp w base a c xs) : BXs w a xs := by
  refine ⟨?_, fun x hx => (h.el x hx).2.2.2⟩
  rcases h.addr with ⟨rfl, rfl, rfl⟩ | ⟨g, rfl⟩
  · exact .inl rfl
  · exact h.cnt.1.prs

end Go.Proofs.YtbpfkmpkadimeaaGreatDoor

/- schismalaw43.known. -/
namespace Go.Proofs.YtbpfkmpkadimeaaGreatDoor
open Go.RowKit Go.Lib
attribute [local go_sem ↓] Go.wp_at_zero Go.wp_at_succ

def exN : List (ByteArray × List Int) := [(⟨#[65]⟩, [0]), (⟨#[66]⟩, [2])]
def exA : List (ByteArray × List Int) := [(⟨#[35]⟩, [1]), (⟨#[98]⟩, [-1])]
theorem dis_of {L : List (ByteArray × List Int)} (f : ByteArray × List Int → Nat) (hf : ∀ x y, x.1 = y.1 → f x = f y) (h : (L.map f).Nodup) : ∀ (i j : Nat) (x y : ByteArray × List Int), L[i]? = some x → L[j]? = some y → i < j → x.1 ≠ y.1 := fun i j x y hx hy hij e => by
  have e2 : (L.map f)[i]? = (L.map f)[j]? := by rw [List.getElem?_map, List.getElem?_map, hx, hy]; simp only [Option.map_some]; rw [hf x y e]
  have := (List.getElem?_inj (by rw [List.length_map]; exact (List.getElem?_eq_some_iff.1 hx).1) h).1 e2
  omega
theorem ex_ok : NotOkP 1 exN exA :=
  ⟨by decide, by decide, by decide, by decide, by decide, by decide, by decide, dis_of (fun x => (x.1.data[0]!).toNat) (fun x y e => by simp only [e]) (by decide)⟩
theorem ex_all : allR [[0], [2]] [[1], [-1]] [1] 1 = [(0, [0, -1]), (0, [1, 0]), (1, [-1, 0]), (1, [0, 1])] := (sortS_eq (by decide +kernel) (by decide +kernel)).symm
theorem ex_enh : (allR [[0], [2]] [[1], [-1]] [0] 1).filter (fun t => !decide (ordS (stI (0, [0, 0])) (stI t) = 0)) = [(0, [-1, -1]), (0, [1, 1]), (1, [-1, 1])] := by
  have e : allR [[0], [2]] [[1], [-1]] [0] 1 = [(0, [0, 0]), (0, [-1, -1]), (0, [1, 1]), (1, [-1, 1])] := (sortS_eq (by decide +kernel) (by decide +kernel)).symm
  rw [e]
  decide +kernel
theorem ex_ker : kerS 20 1 [[1], [-1]] = some [[1, 1]] := by decide +kernel

theorem El.two {W : World} {b : Nat} {x y : Int} {t : TypeId} (h : W.heap[b]? = some (.cells #[.int .i64 x, .int .i64 y] t (0, 0))) : El W iv (some ⟨b, 0, none⟩) [x, y] :=
  .inr ⟨b, 0, rfl, lt_of_heap h, fun i z hz => by
    match i, hz with
    | 0, hz => simp at hz; subst hz; rw [cells_of h]; rfl
    | 1, hz => simp at hz; subst hz; rw [cells_of h]; rfl
    | i + 2, hz => simp at hz⟩
theorem BXs.get {w : World} {b o : Nat} {xs : List BX} (h : BXs w (some ⟨b, o, none⟩) xs) {k i : Nat} {cs : List Int} (hk : (xs.map stripX)[k]? = some (i, cs)) :
    ∃ g c, w.cell? ⟨b, o + k * 2, none⟩ = some (.int .i64 i) ∧ w.cell? ⟨b, o + k * 2 + 1, none⟩ = some (.slice (some ⟨g, 0, none⟩) cs.length c) ∧ El w iv (some ⟨g, 0, none⟩) cs := by
  rw [List.getElem?_map] at hk
  cases e : xs[k]? with
  | none => rw [e] at hk; simp at hk
  | some x =>
    rw [e] at hk
    injection hk with hk
    injection hk with h1 h2
    subst h1; subst h2
    obtain ⟨b', o', y, ha, -, hy, c1, c2, c3⟩ := h.at (i := k) (List.getElem?_eq_some_iff.1 e).1
    injection ha with ha; injection ha with e1 e2
    subst e1; subst e2
    rw [e] at hy
    injection hy with hy
    subst hy
    exact ⟨x.g, x.c, c1, c2, c3⟩
theorem BXs.addr {w : World} {a : Option Addr} {xs : List BX} (h : BXs w a xs) (hx : 0 < xs.length) : ∃ b o, a = some ⟨b, o, none⟩ := by
  obtain ⟨b, o, x, ha, _⟩ := h.at (i := 0) hx
  exact ⟨b, o, ha⟩
/-- two elements equal to two that the call lays -/
theorem Eq2 (x y : Int) (a : Option Addr) (c : Nat) (W : World) (h : El W iv a [x, y]) : Calls Tryz.prog 43 #[.slice a 2 c, .slice (some ⟨W.heap.size, 0, none⟩) 2 2] (W.alloc (.cells #[.int .i64 x, .int .i64 y] 3)) fun e w' => e = .returned (.bool true) ∧ Fr W w' := by
  have := Equal_row [x, y] [x, y] a (some ⟨W.heap.size, 0, none⟩) c 2 (W.alloc (.cells #[.int .i64 x, .int .i64 y] 3)) (h.fr ((Fr.refl W).alloc _)) (El.two (heap_alloc_new W _)) (by simp) (by simp)
  refine this.mono fun e w' h => ⟨?_, ((Fr.refl W).alloc _).trans h.2⟩
  rw [h.1, decide_eq_true rfl]

set_option maxRecDepth 100000 in
set_option maxHeartbeats 4000000 in
theorem known_any (w : World) (hG : G w) : Calls Tryz.prog 9 #[] w fun e w' => e = .returned (.bool true) ∧ Fr w w' := by
  have hex := example_any w
  replace hG := Lib.hid hG
  replace hex := Lib.hid hex
  go_enter Tryz.func9, Tryz.ntmps9
  go_wp2_with fail
  refine hex.out.mono ?_
  rintro e w1 ⟨aN, aA, cN, cA, N, A, rfl, hn, hN, hA, hf1⟩
  clear hex
  have hok := ex_ok.ok hN hA
  have hNl : N.length = 2 := by have := congrArg List.length hN; simpa using this
  have hAl : A.length = 2 := by have := congrArg List.length hA; simpa using this
  have hNr : N.map Sy.row = [[0], [2]] := by rw [row_plain, hN]; rfl
  have hAr : A.map Sy.row = [[1], [-1]] := by rw [row_plain, hA]; rfl
  have hfb : Fr w1 (w1.alloc (.cells #[.slice aN N.length cN, .slice aA A.length cA] 31)) := (Fr.refl w1).alloc _
  have n1 := (new2a w1 (.slice aN N.length cN) (.slice aA A.length cA) 31).1
  have n2 := (new2b w1 (.slice aN N.length cN) (.slice aA A.length cA) 31).1
  have hall := fun W (hW : Fr w1 W) => All_any 1 aN aA cN cA N A [1] (some ⟨W.heap.size, 0, none⟩) 1 1 (W.alloc (.cells #[.int .i64 1] 3)) (hn.fr (hW.alloc _)) hok (by decide) (El.one (heap_alloc_new W _)) (by simp) (by intro; decide)
  rw [show allE9 1 N.length A.length [1] 1 = 0 by rw [hNl, hAl]; decide, allL_R, hNr, hAr, show (1 : Int).toNat = 1 by rfl, ex_all] at hall
  have hrel := fun W (hW : Fr w1 W) => Relations_one 1 20 aN aA cN cA N A 1 [1] W (hG.out.fr (hf1.trans hW)) (hn.fr hW) hok (by decide) (by omega) (by rw [hAr]; exact ex_ker) (by decide) (by rw [hAl]; rfl) (by decide)
  have henh := fun W (hW : Fr w1 W) => Enharmonic_any 1 aN aA cN cA N A ⟨0, [0, 0], some ⟨W.heap.size, 0, none⟩, 2⟩ 1 (W.alloc (.cells #[.int .i64 0, .int .i64 0] 3)) (hn.fr (hW.alloc _)) hok (by decide) (El.two (heap_alloc_new W _)) (by simp) (by intro; decide)
  have hel : enhL N A (0, [0, 0]) 1 = [(0, [-1, -1]), (0, [1, 1]), (1, [-1, 1])] := by
    unfold enhL
    rw [allL_R, sumS_R, hNr, hAr]
    exact ex_enh
  have hee : enhE N A 0 [0, 0] 1 = 0 := by
    unfold enhE
    rw [show spE N A 0 [0, 0] = 0 from spE_ok (i := 0) (by omega) (by rw [hAl]; rfl) (by decide) (by decide), hNl, hAl]; decide
  simp only [show (0 : Int).toNat = 0 from rfl, show (1 : Int).toNat = 1 from rfl, hel, hee] at henh
  simp only [List.length_cons, List.length_nil, Nat.zero_add, Nat.reduceAdd] at hall hrel henh
  generalize N.length = nN at *
  generalize A.length = nA at *
  replace hall := Lib.hid hall
  replace hrel := Lib.hid hrel
  replace henh := Lib.hid henh
  clear hn hN hA hok hNl hAl hNr hAr hel hee
  have h1 := hall.out _ hfb
  rw [show (w1.alloc (.cells #[.slice aN nN cN, .slice aA nA cA] 31)).heap.size = w1.heap.size + 1 by simp] at h1
  replace h1 := Lib.hid h1
  replace hfb := Lib.hid hfb
  replace n1 := Lib.hid n1
  replace n2 := Lib.hid n2
  clear hall
  go_wp2_with fail
  refine h1.out.mono ?_
  rintro e w2 ⟨hr, -, hf2⟩
  obtain ⟨al, cl, xs, rfl, hown, hxs⟩ := hr rfl
  have hl4 : xs.length = 4 := by have := congrArg List.length hxs; simpa using this
  have hbx := hown.bxs
  obtain ⟨lb, lo, rfl⟩ := hbx.addr (by omega)
  rw [hl4]
  have hf2' : Fr (w1.alloc (.cells #[.slice aN nN cN, .slice aA nA cA] 31)) w2 := ((Fr.refl _).alloc _).trans hf2
  have hf12 : Fr w1 w2 := hfb.out.trans hf2'
  have m1 := hf2'.keep n1.out
  have m2 := hf2'.keep n2.out
  replace hbx := Lib.hid hbx
  replace hxs := Lib.hid hxs
  clear hr hown h1 hl4 hf2 hf2' hfb n1 n2
  have h2 := Lib.hid (hrel.out w2 hf12)
  clear hrel
  go_wp2_with fail
  refine h2.out.mono ?_
  rintro e w3 ⟨am, cm, rfl, hm, hf3⟩
  have m3 := hf3.keep m1
  have m4 := hf3.keep m2
  replace hm := Lib.hid hm
  have h3 := Lib.hid (henh.out w3 (hf12.trans hf3))
  clear henh h2 m1 m2
  rw [show ([[(1 : Int), 1]] : List (List Int)).length = 1 from rfl]
  go_wp2_with fail
  refine h3.out.mono ?_
  rintro e w4 ⟨hr, -, hf4⟩
  obtain ⟨ae, ce, es, rfl, hpe, hee, hes⟩ := hr rfl
  have hl3 : es.length = 3 := by have := congrArg List.length hes; simpa using this
  have hbe : BXs w4 ae es := ⟨hpe, hee⟩
  obtain ⟨eb, eo, rfl⟩ := hbe.addr (by omega)
  rw [hl3]
  have hf34 : Fr w3 w4 := ((Fr.refl _).alloc _).trans hf4
  have hb4 := hbx.out.fr (hf3.trans hf34)
  obtain ⟨gA, kA, -, a1, aE⟩ := hb4.get (k := 0) (i := 0) (cs := [0, -1]) (by rw [hxs.out]; rfl)
  obtain ⟨gC, kC, c0, -, -⟩ := hb4.get (k := 2) (i := 1) (cs := [-1, 0]) (by rw [hxs.out]; rfl)
  obtain ⟨gD, kD, -, d1, dE⟩ := hb4.get (k := 3) (i := 1) (cs := [0, 1]) (by rw [hxs.out]; rfl)
  obtain ⟨gE, kE, e0, -, -⟩ := hbe.get (k := 2) (i := 1) (cs := [-1, 1]) (by rw [hes]; rfl)
  obtain ⟨mb, mo, ma, mc, rfl, mcell, mE⟩ := (hm.out.fr hf34).at (i := 0) (by decide)
  have hfw : Fr w w4 := hf1.trans ((hf12.trans hf3).trans hf34)
  rw [Nat.zero_mul, Nat.add_zero] at a1
  rw [Nat.add_zero] at mcell
  simp only [Nat.reduceMul, List.length_cons, List.length_nil, Nat.zero_add, Nat.reduceAdd] at a1 c0 d1 e0
  have mcell : w4.cell? ⟨mb, mo, none⟩ = some (.slice ma 2 mc) := mcell
  have mE : El w4 iv ma [1, 1] := mE
  have q1 := Lib.hid (Eq2 0 (-1) (some ⟨gA, 0, none⟩) kA w4 aE)
  replace aE := Lib.hid aE
  replace dE := Lib.hid dE
  replace mE := Lib.hid mE
  clear hr hpe hee hes hl3 hbe hf4 hb4 h3 hm hbx hxs hf3 hf12 hf1 m3 m4
  go_wp2_with fail
  refine q1.out.mono ?_
  rintro e w5 ⟨rfl, hf5⟩
  replace c0 := hf5.keep c0
  replace d1 := hf5.keep d1
  replace e0 := hf5.keep e0
  replace mcell := hf5.keep mcell
  have q2 := Lib.hid (Eq2 0 1 (some ⟨gD, 0, none⟩) kD w5 (dE.out.fr hf5))
  clear q1
  go_wp2_with fail
  refine q2.out.mono ?_
  rintro e w6 ⟨rfl, hf6⟩
  replace e0 := hf6.keep e0
  replace mcell := hf6.keep mcell
  have q3 := Lib.hid (Eq2 1 1 ma mc w6 (mE.out.fr (hf5.trans hf6)))
  clear q2
  go_wp2_with fail
  refine q3.out.mono ?_
  rintro e w7 ⟨rfl, hf7⟩
  replace e0 := hf7.keep e0
  go_wp2_with fail
  go_ret
  exact ⟨rfl, hfw.trans ((hf5.trans hf6).trans hf7)⟩
end Go.Proofs.YtbpfkmpkadimeaaGreatDoor
