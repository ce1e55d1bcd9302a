/-
  Contracts and laws for the statements of the seat, QRd.
-/
import Derived.Test.YtamffndlpminmaaGreatDoorQNA
import Derived.Test.YtamffndlpminmaaGreatDoorQEl
import Derived.Test.YtamffndlpminmaaGreatDoorQMk

/- schismalaw42.spelling, short, read. -/
namespace Go.Proofs.YtamffndlpminmaaGreatDoor
open Go.RowKit Go.Lib
attribute [local go_sem ↓] Go.wp_at_zero Go.wp_at_succ

set_option maxRecDepth 100000 in
set_option maxHeartbeats 1000000 in
theorem spelling42_any (aN aA : Option Addr) (cN cA : Nat) (N A : List Sy) (i : Int) (cs : List Int) (ca : Option Addr) (cc : Nat) (w : World) (hcs : El w iv ca cs) (hl : cs.length ≤ 1000000000) (_hN : N.length ≤ 1000000000) (_hA : A.length ≤ 1000000000) :
    Calls Tryz.prog 10 #[.agg #[.slice aN N.length cN, .slice aA A.length cA], .agg #[.int .i64 i, .slice ca cs.length cc]] w fun e w' => e = .returned (.int .i64 (spE N A i cs)) ∧ Fr w w' := by
  have hck := fun W (hW : Fr w W) => Check_row cs ca cc W (hcs.fr hW) hl
  replace hck := Lib.hid hck
  clear hcs
  have hf2 : Fr w ((w.alloc (.cells #[.slice aN N.length cN, .slice aA A.length cA] 34)).alloc (.cells #[.int .i64 i, .slice ca cs.length cc] 31)) := ((Fr.refl w).alloc _).alloc _
  replace hf2 := Lib.hid hf2
  by_cases h1 : i < 0
  · have hfin := Lib.hid (show spE N A i cs = 10 by unfold spE; rw [if_pos (.inl h1)])
    have d1 : decide (i < 0) = true := decide_eq_true h1
    go_enter Tryz.func10, Tryz.ntmps10
    go_wp2_with fail
    go_ret
    exact ⟨ret_int hfin.out.symm, hf2.out⟩
  · by_cases h2 : (N.length : Int) ≤ i
    · have hfin := Lib.hid (show spE N A i cs = 10 by unfold spE; rw [if_pos (.inr h2)])
      have d1 : decide (i < 0) = false := decide_eq_false h1
      have d2 : decide ((N.length : Int) ≤ i) = true := decide_eq_true h2
      go_enter Tryz.func10, Tryz.ntmps10
      go_wp2_with fail
      go_ret
      exact ⟨ret_int hfin.out.symm, hf2.out⟩
    · have d1 : decide (i < 0) = false := decide_eq_false h1
      have d2 : decide ((N.length : Int) ≤ i) = false := decide_eq_false h2
      by_cases h3 : cs.length = A.length
      · have hfin := Lib.hid (show spE N A i cs = rowE cs by unfold spE; rw [if_neg (by omega), if_neg (by rw [h3]; simp)])
        have q3 : ((cs.length : Int) != A.length) = false := by rw [h3]; simp
        replace h3 := Lib.hid h3
        go_enter Tryz.func10, Tryz.ntmps10
        go_wp2_with fail
        refine (hck.out _ hf2.out).mono ?_
        rintro e w3 ⟨rfl, hf3⟩
        go_wp2_with fail
        go_ret
        exact ⟨ret_int hfin.out.symm, hf2.out.trans hf3⟩
      · have hfin := Lib.hid (show spE N A i cs = 5 by unfold spE; rw [if_neg (by omega), if_pos h3])
        have q3 : ((cs.length : Int) != A.length) = true := by rw [bne_iff_ne]; omega
        replace h3 := Lib.hid h3
        go_enter Tryz.func10, Tryz.ntmps10
        go_wp2_with fail
        go_ret
        exact ⟨ret_int hfin.out.symm, hf2.out⟩


theorem own_readS2 {w : World} {base : Nat} {v : Value} {l : List Int} {n : Nat} (h : w.ownsRow base 73 1 v n (l.map sv)) : ∃ a c, v = .slice a n c ∧ El w sv a l := by
  have hn : l.length = n := by have := h.1; simpa using this
  rcases h.2 with ⟨h1, h2⟩ | ⟨g, cap, cur, hv, _⟩
  · have e : l = [] := List.eq_nil_of_length_eq_zero (by omega)
    subst e
    have h2 : n = 0 := by omega
    subst h2
    exact ⟨none, 0, h1, .inl rfl⟩
  · subst hv
    obtain ⟨-, -, h2, -, h4⟩ := ownsRow_some h
    refine ⟨_, _, rfl, .inr ⟨g, 0, rfl, h2, fun i x hx => ?_⟩⟩
    rw [Nat.zero_add]
    exact (h4 i (sv x) (by rw [List.getElem?_map, hx]; rfl)).1
/-- a row, or none -/
def ShRet (w : World) (xs : List Int) (d : Nat) (e : Ending) (w' : World) : Prop := (xs.all fitB = true → ∃ a c, e = .returned (.tuple #[.slice a d c, .bool true]) ∧ El w' iv a xs ∧ xs.length = d ∧ Fr w w') ∧ (xs.all fitB = false → e = .returned (.tuple #[.slice none 0 0, .bool false]) ∧ Fr w w')
set_option maxRecDepth 100000 in
set_option maxHeartbeats 2000000 in
theorem short42_any (xs : List Int) (a : Option Addr) (cap n : Nat) (w : World) (hG : G w) (hx : El w sv a xs) (hn : n = xs.length) (hl : n ≤ 1000000) (hb : ∀ x, x ∈ xs → Sm x) :
    Calls Tryz.prog 36 #[.slice a n cap] w (ShRet w xs n) := by
  have hgn := gN_le hG
  obtain ⟨i1, ji, jz0, jz1, jz2⟩ := info_parts infoInt
  replace hn := Lib.hid hn
  replace hx := Lib.hid hx
  replace hb := Lib.hid hb
  replace hG := Lib.hid hG
  go_enter Tryz.func36, Tryz.ntmps36
  go_wp2_with fail
  have hf0 : Fr w (w.alloc (.cells #[] 3)) := (Fr.refl w).alloc _
  have hown0 := World.ownsRow_lit (base := w.heap.size) (e := 3) (size := 1) w #[] 0 (Nat.le_refl _) (by decide) rfl
  go_loopg [4, 5] n (fun k s4 s5 wr => ∃ i : Nat, s5 = .int .i64 i ∧ i + k = n ∧ Fr w wr ∧ Hid (wr.ownsRow w.heap.size 3 1 s4 i ((xs.take i).map iv)) ∧ Hid ((xs.take i).all fitB = true))
  case atStart => exact ⟨0, rfl, by omega, hf0, hown0, rfl⟩
  case round =>
    clear hf0 hown0
    obtain ⟨i, rfl, hik, hf, hown, hfit⟩ := hrel
    by_cases hi : i < n
    · have hdI : decide (i < n) = true := decide_eq_true hi
      obtain ⟨b, o, x, rfl, hbl, hxi, hcell⟩ := (hx.out.fr hf).at (i := i) (by rw [← hn.out]; exact hi)
      have hsx := hb.out x (List.mem_of_getElem? hxi)
      have hsm := Lib.hid (fun W => R2Small x hsx W)
      have hft := Lib.hid (fun W => R2Fits x (by obtain ⟨h1, h2⟩ := hsx; omega) (by obtain ⟨h1, h2⟩ := hsx; omega) W)
      have htk := take_snoc hxi
      have hmem : x ∈ xs := List.mem_of_getElem? hxi
      replace hxi := Lib.hid hxi
      have z0 : (0 : Int) ≤ (i : Int) := Int.natCast_nonneg _
      have z1 : (i : Int) < (n : Int) := by omega
      cases hfx : fitB x with
      | true =>
        have hsn : Hid ((xs.take (i + 1)).map iv = (xs.take i).map iv ++ [iv x]) := Lib.hid (by rw [htk, List.map_append]; rfl)
        have hft9 : Hid ((xs.take (i + 1)).all fitB = true) := Lib.hid (by
          rw [htk, List.all_append, hfit.out]; simp [hfx])
        rw [hfx] at hft
        replace hfx := Lib.hid hfx
        clear htk hmem hsx
        have hz7 := hf.size
        go_wp2_with fail
        refine (hsm.out _).mono ?_
        rintro e w1 ⟨rfl, rfl⟩
        go_wp2_with fail
        refine (hft.out _).mono ?_
        rintro e w1 ⟨rfl, rfl⟩
        go_wp2_with (at_builtin; refine wpList_append_lies _ rfl _ _ 29 (by rfl) _ 3 _ _ 1 8 Tryz.underlying29 ji jz0 jz1 jz2 rfl (by decide) _ i _ (by rfl) (World.ownsRow.alloc hown.out _) ⟨wr.heap.size, 0, none⟩ 1 1 [.int .i64 x] (by rfl) rfl (cell_one_newN _ _ _ _ (by simp)) (by simp [Value.oneCell']) (by decide) (by unfold maxLen; omega) (by omega) (by skip; simp; omega) (wr.heap.size + 1) (by simp) ?_; intro gA capA wA hownA hgrowA hatA hltA)
        go_wp2_with fail
        go_roundg (gk - 1)
        case measure => omega
        case rel => exact ⟨i + 1, by go_num, by omega, (hf.alloc _).grown hgrowA (fun k e => (hown.out.lt k e).1), by show _; rw [hsn.out]; exact hownA, hft9.out⟩
      | false =>
        have hbad : Hid (xs.all fitB = false) := Lib.hid (List.all_eq_false.2 ⟨x, hmem, by rw [hfx]; simp⟩)
        rw [hfx] at hft
        replace hfx := Lib.hid hfx
        clear htk hmem hsx
        go_wp2_with fail
        refine (hsm.out _).mono ?_
        rintro e w1 ⟨rfl, rfl⟩
        go_wp2_with fail
        refine (hft.out _).mono ?_
        rintro e w1 ⟨rfl, rfl⟩
        go_wp2_with fail
        go_ret2
        exact ⟨fun h => (by rw [hbad.out] at h; cases h), fun _ => ⟨rfl, hf⟩⟩
    · have hdI : decide (i < n) = false := decide_eq_false hi
      obtain rfl : n = i := by omega
      obtain ⟨a9, c9, rfl, hel9⟩ := own_readI hown.out
      have hall := hfit.out
      rw [List.take_of_length_le (by rw [← hn.out]; exact Nat.le_refl _)] at hel9 hall
      replace hel9 := Lib.hid hel9
      replace hall := Lib.hid hall
      go_wp2_with fail
      go_ret2
      exact ⟨fun _ => ⟨a9, c9, rfl, hel9.out, hn.out.symm, hf⟩, fun h => (by rw [hall.out] at h; cases h)⟩

set_option maxRecDepth 100000 in
set_option maxHeartbeats 8000000 in
theorem read42_any (N A : List Sy) (d i0 : Nat) (cs s0 : List Int) (ca aN aA : Option Addr) (cc cN cA M : Nat) (w : World) (hG : G w) (hn : NotIs w aN aA cA N A) (d6 : d ≤ 6) (lenA : A.length = d) (hM : N.length = M) (_n60 : M ≤ 60)
    (rowA : ∀ q, q ∈ A.map Sy.row → q.length = d) (hc : El w iv ca cs) (hcl : cs.length = d) (hcf : ∀ x, x ∈ cs → fitB x = true)
    (hi0 : i0 < M) (hs0 : (N.map Sy.row)[i0]? = some s0) (r0 : s0.length = d) (hzz0 : ∀ i c, i ≤ d → c < d → Sm (((rdT (A.map Sy.row) cs s0 i)[c]?).getD 0)) (hta : ∀ i c, i < d → c < d → (((rowAt (A.map Sy.row) i)[c]?).getD 0).natAbs < 10000000) :
    Calls Tryz.prog 11 #[.agg #[.slice aN M cN, .slice aA d cA], .agg #[.int .i64 i0, .slice ca d cc]] w (ShRet w (rdT (A.map Sy.row) cs s0 d) d) := by
  have hgn := gN_le hG
  obtain ⟨i1, ji, jz0, jz1, jz2⟩ := info_parts info65
  obtain ⟨x0, hx0, hx0r⟩ : ∃ x0, N[i0]? = some x0 ∧ x0.row = s0 := by
    rw [List.getElem?_map] at hs0
    obtain ⟨x0, h1, h2⟩ := Option.map_eq_some_iff.1 hs0
    exact ⟨x0, h1, h2⟩
  have hl0 : x0.row.length = d := by rw [hx0r]; exact r0
  have hrA : ∀ i, i < d → (rowAt (A.map Sy.row) i).length = d := fun i hi => by
    have hi2 : i < (A.map Sy.row).length := by rw [List.length_map]; omega
    rw [rowAt_eq hi2]
    exact rowA _ (List.getElem_mem hi2)
  have hlen := Lib.hid (fun i (hi : i ≤ d) => rdT_len (RA := A.map Sy.row) (cs := cs) r0 hrA i hi)
  have hat : ∀ (i : Nat) (x : Sy), A[i]? = some x → rowAt (A.map Sy.row) i = x.row ∧ x.row.length = d := fun i x hx => by
    have h1 : (A.map Sy.row)[i]? = some x.row := by rw [List.getElem?_map, hx]; rfl
    have h2 := List.getElem?_eq_some_iff.1 h1
    exact ⟨by rw [rowAt_eq h2.1]; exact h2.2, rowA _ (List.mem_of_getElem? h1)⟩
  have hcb : ∀ i x, cs[i]? = some x → -1000000000 ≤ x ∧ x ≤ 1000000000 := fun i x h => of_decide_eq_true (hcf x (List.mem_of_getElem? h))
  have hGf := Lib.hid (fun W (hW : Fr w W) => hG.fr hW)
  have hnm := Lib.hid hn.noms
  have hac := Lib.hid hn.accs
  replace hat := Lib.hid hat
  replace hzz0 := Lib.hid hzz0
  replace hta := Lib.hid hta
  replace hc := Lib.hid hc
  replace hcl := Lib.hid hcl
  replace hcb := Lib.hid hcb
  replace hM := Lib.hid hM
  replace hx0 := Lib.hid hx0
  replace lenA := Lib.hid lenA
  replace hl0 := Lib.hid hl0
  replace hx0r := Lib.hid hx0r
  generalize A.map Sy.row = RA at *
  clear hG hn rowA hs0 hcf hrA r0
  obtain ⟨nb, hnb⟩ : ∃ nb, nb = w.heap.size := ⟨_, rfl⟩
  obtain ⟨W1, hW1⟩ : ∃ W1, W1 = (w.alloc (.cells #[.slice aN M cN, .slice aA d cA] 34)).alloc (.cells #[.int .i64 i0, .slice ca d cc] 31) := ⟨_, rfl⟩
  have f1 : Fr w W1 := by rw [hW1]; exact ((Fr.refl _).alloc _).alloc _
  have hN1 : Cel2 W1 nb (.slice aN M cN) (.slice aA d cA) := by rw [hW1, hnb]; exact (Cel2.new w _ _ _).fr ((Fr.refl _).alloc _)
  have hS1 : Cel2 W1 (nb + 1) (.int .i64 i0) (.slice ca d cc) := by
    have := Cel2.new (w.alloc (.cells #[.slice aN M cN, .slice aA d cA] 34)) (.int .i64 i0) (.slice ca d cc) 31
    rw [World.size_alloc] at this
    rw [hW1, hnb]; exact this
  have hW1s : nb + 2 ≤ W1.heap.size := by rw [hW1, hnb]; simp
  go_enter Tryz.func11, Tryz.ntmps11
  go_upto_region 1 with (fail)
  rw [← hW1, ← hnb]
  clear hW1
  have hnbw := Lib.hid hnb
  clear hnb
  replace hN1 := Lib.hid hN1
  replace hS1 := Lib.hid hS1
  have z0 : (0 : Int) ≤ (i0 : Int) := Int.natCast_nonneg _
  have z1 : (i0 : Int) < (M : Int) := by omega
  go_wp2_with fail
  go_loopg [6, 7] d (fun k s6 s7 wr => ∃ c : Nat, s7 = .int .i64 c ∧ c + k = d ∧ Fr W1 wr ∧ Hid (wr.ownsRow W1.heap.size 73 1 s6 c (((rdT RA cs s0 d).take c).map sv)))
  case atStart => exact ⟨0, rfl, by omega, Fr.refl _, World.ownsRow_nil _ _ _ _⟩
  case round =>
    obtain ⟨c, rfl, hck, hf, hown⟩ := hrel
    have hFr := f1.trans hf
    have n0 := hf.keep hN1.out.a
    have n1 := hf.keep hN1.out.b
    have m0 := hf.keep hS1.out.a
    have m1 := hf.keep hS1.out.b
    have y0 : (0 : Int) ≤ (c : Int) := Int.natCast_nonneg _
    obtain ⟨wo, rfl⟩ : ∃ wo : World, wo = wr := ⟨_, rfl⟩
    obtain ⟨ko, rfl⟩ : ∃ ko : Nat, ko = gk := ⟨_, rfl⟩
    by_cases hcd : c < d
    · have hdC : decide (c < d) = true := decide_eq_true hcd
      have y1 : (c : Int) < (d : Int) := by omega
      obtain ⟨ab, ao, xx, rfl, hbl, hxx, hc1, hc2, -⟩ := (hnm.out.fr hFr).at (i := i0) (by rw [hM.out]; exact hi0)
      obtain rfl : x0 = xx := by rw [hx0.out] at hxx; injection hxx
      have hel0 := (hnm.out.fr hFr).2 x0 (List.mem_of_getElem? hx0.out)
      obtain ⟨eb, eo, v0, hxa, hbe, hv0, hc4⟩ := hel0.at (i := c) (by rw [hl0.out]; exact hcd)
      rw [hl0.out, hxa] at hc2
      have hv9 : (((rdT RA cs s0 0)[c]?).getD 0) = v0 := by
        show (s0[c]?).getD 0 = v0
        rw [← hx0r.out, hv0]; rfl
      have hs9 := hzz0.out 0 c (Nat.zero_le _) hcd
      rw [hv9] at hs9
      have hof := Lib.hid (fun W (hW : Fr wo W) => OfR_any v0 (by obtain ⟨h1, h2⟩ := hs9; omega) (by obtain ⟨h1, h2⟩ := hs9; omega) W (hGf.out _ (hFr.trans hW)))
      replace hv9 := Lib.hid hv9
      replace hv0 := Lib.hid hv0
      replace hxx := Lib.hid hxx
      clear hs9 hel0
      go_wp2_with fail
      refine (hof.out _ (Fr.refl _)).mono ?_
      rintro e w2 ⟨rfl, hf2⟩
      replace n1 := hf2.keep n1
      replace m1 := hf2.keep m1
      clear hc1 hc2 hc4 n0 m0
      go_wp2_with fail
      go_loopg [8, 9] d (fun k s8 s9 wr => ∃ i : Nat, s9 = .int .i64 i ∧ s8 = .string (tx (((rdT RA cs s0 i)[c]?).getD 0)) ∧ i + k = d ∧ Fr w2 wr)
      case atStart => exact ⟨0, rfl, by rw [hv9.out], by omega, Fr.refl _⟩
      case round =>
        obtain ⟨i, rfl, rfl, hik, hf3⟩ := hrel
        have hFr3 := (hFr.trans hf2).trans hf3
        replace n1 := hf3.keep n1
        replace m1 := hf3.keep m1
        have u0 : (0 : Int) ≤ (i : Int) := Int.natCast_nonneg _
        obtain ⟨wv, rfl⟩ : ∃ wv : World, wv = wr := ⟨_, rfl⟩
        by_cases hi : i < d
        · have hdI : decide (i < d) = true := decide_eq_true hi
          have u1 : (i : Int) < (d : Int) := by omega
          obtain ⟨bb, bo, x, hae, hbl2, hxi, hd1, hd2, -⟩ := (hac.out.fr hFr3).at (i := i) (by rw [lenA.out]; exact hi)
          subst hae
          have hel := (hac.out.fr hFr3).2 x (List.mem_of_getElem? hxi)
          obtain ⟨hx1, hx2⟩ := hat.out i x hxi
          obtain ⟨fb, fo, xe, hxa2, hbf, hxe, hd4⟩ := hel.at (i := c) (by rw [hx2]; exact hcd)
          rw [hx2, hxa2] at hd2
          obtain ⟨cb, co, kc, rfl, -, hkc, hd3⟩ := (hc.out.fr hFr3).at (i := i) (by rw [hcl.out]; exact hi)
          obtain ⟨se, hse⟩ : ∃ se, (rdT RA cs s0 i)[c]? = some se := ⟨_, List.getElem?_eq_getElem (by rw [hlen.out i (by omega)]; exact hcd)⟩
          have hnew : (((rdT RA cs s0 (i + 1))[c]?).getD 0) = se + kc * xe := by
            rw [rdT, List.getElem?_zipWith, hse, hx1, hxe, hkc]; rfl
          have q1 := hcb.out i kc hkc
          have q2 := hzz0.out i c (by omega) hcd
          rw [hse] at q2
          have q3 := hta.out i c hi hcd
          rw [hx1, hxe] at q3
          simp only [Option.getD_some] at q2 q3
          have q4 := hzz0.out (i + 1) c (by omega) hcd
          rw [hnew] at q4
          have hse9 : (((rdT RA cs s0 i)[c]?).getD 0) = se := by rw [hse]; rfl
          have hpm : (kc * xe).natAbs ≤ 1000000000 * 10000000 := by rw [Int.natAbs_mul]; exact Nat.mul_le_mul (by omega) (by omega)
          have hsz1 := abs_size 10 (a := kc) (by decide) (by omega)
          have hsz2 := abs_size 7 (a := xe) (by decide) (by omega)
          have ho1 := Lib.hid (fun W' (hW' : Fr wv W') => OfR_any kc (by omega) (by omega) W' (hGf.out _ (hFr3.trans hW')))
          have ho2 := Lib.hid (fun W' (hW' : Fr wv W') => OfR_any xe (by omega) (by omega) W' (hGf.out _ (hFr3.trans hW')))
          have hmu := Lib.hid (fun W' (hW' : Fr wv W') => R2Mul kc xe ⟨by omega, by omega⟩ ⟨by omega, by omega⟩ (by omega) (by omega) (by omega) W' (hGf.out _ (hFr3.trans hW')))
          have had := Lib.hid (fun W' (hW' : Fr wv W') => R2Add se (kc * xe) q2 ⟨by omega, by omega⟩ W' (hGf.out _ (hFr3.trans hW')))
          rw [hse9]
          replace hse := Lib.hid hse
          replace hse9 := Lib.hid hse9
          replace hnew := Lib.hid hnew
          replace hxe := Lib.hid hxe
          replace hkc := Lib.hid hkc
          replace hxi := Lib.hid hxi
          replace hx1 := Lib.hid hx1
          replace hx2 := Lib.hid hx2
          replace hxa2 := Lib.hid hxa2
          clear q1 q2 q3 q4 hpm hsz1 hsz2 hel
          go_wp2_with fail
          go_region_held3 (fun w' => w'.cell? ⟨nb + 1, 1, none⟩ = some (.slice (some ⟨cb, co, none⟩) d cc) ∧ w'.cell? ⟨cb, co + i, none⟩ = some (.int .i64 kc) ∧ w'.cell? ⟨nb, 1, none⟩ = some (.slice (some ⟨bb, bo, none⟩) d cA) ∧ w'.cell? ⟨bb, bo + i * 2 + 1, none⟩ = some (.slice (some ⟨fb, fo, none⟩) d x.rc) ∧ w'.cell? ⟨fb, fo + c, none⟩ = some (.int .i64 xe))
            (first | (refine ⟨Fr.keep (w := wv) ?_ m1, Fr.keep (w := wv) ?_ hd3, Fr.keep (w := wv) ?_ n1, Fr.keep (w := wv) ?_ hd2, Fr.keep (w := wv) ?_ hd4⟩ <;> (repeat (with_reducible first | assumption | exact Fr.refl _ | refine Fr.drew ?_ | refine Fr.drewN ?_ _ | refine Fr.alloc ?_ _ | (refine Fr.setCell ?_ (by simp only [World.size_alloc, World.size_drew, World.size_setCell]; omega) _) | refine Fr.trans ?_ (by assumption)))))
            (first
              | (go_at_call 33; (with_reducible refine (ho1.out _ ?_).mono ?_); (repeat (with_reducible first | assumption | exact Fr.refl _ | refine Fr.drew ?_ | refine Fr.drewN ?_ _ | refine Fr.alloc ?_ _ | (refine Fr.setCell ?_ (by simp only [World.size_alloc, World.size_drew, World.size_setCell]; omega) _) | refine Fr.trans ?_ (by assumption))); rintro e w6 ⟨rfl, hf6⟩)
              | (go_at_call 33; (with_reducible refine (ho2.out _ ?_).mono ?_); (repeat (with_reducible first | assumption | exact Fr.refl _ | refine Fr.drew ?_ | refine Fr.drewN ?_ _ | refine Fr.alloc ?_ _ | (refine Fr.setCell ?_ (by simp only [World.size_alloc, World.size_drew, World.size_setCell]; omega) _) | refine Fr.trans ?_ (by assumption))); rintro e w7 ⟨rfl, hf7⟩)
              | (go_at_call 35; (with_reducible refine (hmu.out _ ?_).mono ?_); (repeat (with_reducible first | assumption | exact Fr.refl _ | refine Fr.drew ?_ | refine Fr.drewN ?_ _ | refine Fr.alloc ?_ _ | (refine Fr.setCell ?_ (by simp only [World.size_alloc, World.size_drew, World.size_setCell]; omega) _) | refine Fr.trans ?_ (by assumption))); rintro e w8 ⟨rfl, hf8⟩)
              | (go_at_call 34; (with_reducible refine (had.out _ ?_).mono ?_); (repeat (with_reducible first | assumption | exact Fr.refl _ | refine Fr.drew ?_ | refine Fr.drewN ?_ _ | refine Fr.alloc ?_ _ | (refine Fr.setCell ?_ (by simp only [World.size_alloc, World.size_drew, World.size_setCell]; omega) _) | refine Fr.trans ?_ (by assumption))); rintro e w9 ⟨rfl, hf9⟩))
          have hf9' : Fr w2 w9 := by repeat (with_reducible first | assumption | exact Fr.refl _ | refine Fr.drew ?_ | refine Fr.drewN ?_ _ | refine Fr.alloc ?_ _ | (refine Fr.setCell ?_ (by simp only [World.size_alloc, World.size_drew, World.size_setCell]; omega) _) | refine Fr.trans ?_ (by assumption))
          go_wp2_with fail
          go_roundg (gk - 1)
          case measure => omega
          case rel => exact ⟨i + 1, by go_num, by rw [hnew.out], by omega, hf9'⟩
        · have hdI : decide (i < d) = false := decide_eq_false hi
          obtain rfl : d = i := by omega
          have hsn : Hid (((rdT RA cs s0 d).take (c + 1)).map sv = ((rdT RA cs s0 d).take c).map sv ++ [sv (((rdT RA cs s0 d)[c]?).getD 0)]) := by
            have h9 := List.getElem?_eq_getElem (show c < (rdT RA cs s0 d).length by rw [hlen.out d (Nat.le_refl _)]; exact hcd)
            show _ = _
            rw [take_snoc h9, h9, List.map_append]; rfl
          have hown9 := Lib.hid (ownsRow_fr (ownsRow_fr hown.out hf2) hf3)
          have hz9 := ((hf.trans hf2).trans hf3).size
          go_wp2_with (at_builtin; refine wpList_append_lies _ rfl _ _ 71 (by rfl) _ 73 _ _ 1 16 Tryz.underlying71 ji jz0 jz1 jz2 rfl (by decide) _ c _ (by rfl) (World.ownsRow.alloc hown9.out _) ⟨wv.heap.size, 0, none⟩ 1 1 [sv (((rdT RA cs s0 d)[c]?).getD 0)] (by rfl) rfl (cell_one_newN _ _ _ _ (by simp)) (by simp [Value.oneCell']) (by decide) (by unfold maxLen; omega) (by omega) (by skip; simp; omega) (wv.heap.size + 1) (by simp) ?_; intro gA capA wA hownA hgrowA hatA hltA)
          go_wp2_with fail
          go_roundg (ko - 1)
          case measure => omega
          case rel => exact ⟨c + 1, by go_num, by omega, (((hf.trans hf2).trans hf3).alloc _).grown hgrowA (fun k e => (hown9.out.lt k e).1), by show World.ownsRow _ _ _ _ _ _ _; rw [hsn.out]; exact hownA⟩
    · have hdC : decide (c < d) = false := decide_eq_false hcd
      obtain rfl : d = c := by omega
      obtain ⟨a9, c9, rfl, hel9⟩ := own_readS2 hown.out
      rw [List.take_of_length_le (by rw [hlen.out d (Nat.le_refl _)]; exact Nat.le_refl _)] at hel9
      have hsh := Lib.hid (short42_any (rdT RA cs s0 d) a9 c9 d wo (hGf.out _ hFr) hel9 (hlen.out d (Nat.le_refl _)).symm (by omega) (fun x hx => by
        obtain ⟨c, hc9, e⟩ := List.getElem_of_mem hx
        have h8 := hzz0.out d c (Nat.le_refl _) (by rw [← hlen.out d (Nat.le_refl _)]; exact hc9)
        rw [List.getElem?_eq_getElem hc9, e] at h8
        exact h8))
      clear hel9
      go_wp2_with fail
      refine hsh.out.mono ?_
      intro e wD hD
      cases hft : (rdT RA cs s0 d).all fitB with
      | true =>
        obtain ⟨a8, c8, rfl, he8, hl8, hf8⟩ := hD.1 hft
        replace hft := Lib.hid hft
        replace he8 := Lib.hid he8
        replace hl8 := Lib.hid hl8
        clear hD
        go_wp2_with fail
        go_ret2
        exact ⟨fun _ => ⟨a8, c8, rfl, he8.out, hl8.out, hFr.trans hf8⟩, fun h => (by rw [hft.out] at h; cases h)⟩
      | false =>
        obtain ⟨rfl, hf8⟩ := hD.2 hft
        replace hft := Lib.hid hft
        clear hD
        go_wp2_with fail
        go_ret2
        exact ⟨fun h => (by rw [hft.out] at h; cases h), fun _ => ⟨rfl, hFr.trans hf8⟩⟩
end Go.Proofs.YtamffndlpminmaaGreatDoor

/- notation.Read at every spelling of a small right notation: the row, or the first error. -/
namespace Go.Proofs.YtamffndlpminmaaGreatDoor
open Go.RowKit Go.Lib
attribute [local go_sem ↓] Go.wp_at_zero Go.wp_at_succ

set_option maxRecDepth 100000 in
set_option maxHeartbeats 2000000 in
theorem NRead_err (N A : List Sy) (M d m : Nat) (i : Int) (cs : List Int) (ca aN aA : Option Addr) (cc cN cA : Nat) (w : World) (hc : El w iv ca cs) (hm : cs.length = m) (hM : N.length = M) (hd : A.length = d) (hl : m ≤ 1000000000) (hN : M ≤ 1000000000) (hA : d ≤ 1000000000) (E : Int) (hE : E = spE N A i cs) (h0 : E ≠ 0)
    (hck : ∀ W, Fr w W → Calls Tryz.prog 25 #[.agg #[.slice aN M cN, .slice aA d cA]] W fun e w' => e = .returned (.int .i64 0) ∧ Fr W w') :
    Calls Tryz.prog 9 #[.agg #[.slice aN M cN, .slice aA d cA], .agg #[.int .i64 i, .slice ca m cc]] w fun e w' => e = .returned (.tuple #[.slice none 0 0, .int .i64 E]) ∧ Fr w w' := by
  have hcs9 := fun W (hW : Fr w W) => NcheckSp_any aN aA cN cA N A i cs ca cc W (hc.fr hW) (by omega) (by omega) (by omega)
  rw [← hE, hM, hd, hm] at hcs9
  have q1 : (E != 0) = true := by rw [bne_iff_ne]; exact h0
  replace hcs9 := Lib.hid hcs9
  replace hck := Lib.hid hck
  replace h0 := Lib.hid h0
  clear hE hc
  obtain ⟨nb, hnb⟩ : ∃ nb, nb = w.heap.size := ⟨_, rfl⟩
  obtain ⟨W1, hW1⟩ : ∃ W1, W1 = (w.alloc (.cells #[.slice aN M cN, .slice aA d cA] 34)).alloc (.cells #[.int .i64 i, .slice ca m cc] 31) := ⟨_, rfl⟩
  have f1 : Fr w W1 := by rw [hW1]; exact ((Fr.refl _).alloc _).alloc _
  have hN1 : Cel2 W1 nb (.slice aN M cN) (.slice aA d cA) := by rw [hW1, hnb]; exact (Cel2.new w _ _ _).fr ((Fr.refl _).alloc _)
  have hS1 : Cel2 W1 (nb + 1) (.int .i64 i) (.slice ca m cc) := by
    have := Cel2.new (w.alloc (.cells #[.slice aN M cN, .slice aA d cA] 34)) (.int .i64 i) (.slice ca m cc) 31
    rw [World.size_alloc] at this
    rw [hW1, hnb]; exact this
  go_enter Tryz.func9, Tryz.ntmps9
  go_upto_region 1 with (fail)
  rw [← hW1, ← hnb]
  clear hW1 hnb
  have n0 := hN1.a
  have n1' := hN1.b
  have s0' := hS1.a
  have s1' := hS1.b
  replace hN1 := Lib.hid hN1
  replace hS1 := Lib.hid hS1
  go_wp2_with fail
  refine (hck.out _ f1).mono ?_
  rintro e w2 ⟨rfl, hf2⟩
  replace n0 := hf2.keep n0
  replace n1' := hf2.keep n1'
  replace s0' := hf2.keep s0'
  replace s1' := hf2.keep s1'
  have f2 := f1.trans hf2
  go_wp2_with fail
  refine (hcs9.out _ f2).mono ?_
  rintro e w3 ⟨rfl, hf3⟩
  go_wp2_with fail
  go_ret2
  exact ⟨rfl, f2.trans hf3⟩

/-- a row and no error -/
def RdOk (w : World) (xs : List Int) (d : Nat) (e : Ending) (w' : World) : Prop := ∃ a c, e = .returned (.tuple #[.slice a d c, .int .i64 0]) ∧ El w' iv a xs ∧ xs.length = d ∧ Fr w w'
set_option maxRecDepth 100000 in
set_option maxHeartbeats 2000000 in
theorem NRead_zero (N : List Sy) (M i0 : Nat) (ca aN aA : Option Addr) (cc cN cA : Nat) (w : World) (hG : G w) (hn : Syms w aN N) (hM : N.length = M) (hN : M ≤ 60) (hi : i0 < M) (hr : ∀ x, x ∈ N → x.row = [])
    (hck : ∀ W, Fr w W → Calls Tryz.prog 25 #[.agg #[.slice aN M cN, .slice aA 0 cA]] W fun e w' => e = .returned (.int .i64 0) ∧ Fr W w') :
    Calls Tryz.prog 9 #[.agg #[.slice aN M cN, .slice aA 0 cA], .agg #[.int .i64 i0, .slice ca 0 cc]] w (RdOk w [] 0) := by
  have hcs9 := fun W (_ : Fr w W) => NcheckSp_any aN aA cN cA N [] (i0 : Int) [] ca cc W (.inl rfl) (by simp) (by omega) (by simp)
  rw [show spE N [] (i0 : Int) [] = 0 by
    unfold spE
    rw [if_neg (by omega), if_neg (by simp)]
    rfl, hM, List.length_nil] at hcs9
  obtain ⟨x, hx⟩ : ∃ x, N[i0]? = some x := ⟨_, List.getElem?_eq_getElem (by omega)⟩
  have hx0 := hr x (List.mem_of_getElem? hx)
  have hin := Lib.hid (fun (W : World) (hW : Fr w W) => NInts_sm [] x.ra x.rc W (hG.fr hW) (.inl rfl) (by simp) (fun y hy => by cases hy))
  have hbk := Lib.hid (fun (W : World) (hW : Fr w W) (a : Option Addr) (c : Nat) => NBack_any [] a c W (hG.fr hW) (.inl rfl) (by simp) (fun y hy => by cases hy))
  have hnm := Lib.hid hn
  replace hcs9 := Lib.hid hcs9
  replace hck := Lib.hid hck
  replace hM := Lib.hid hM
  replace hx := Lib.hid hx
  clear hn hr hG
  obtain ⟨nb, hnb⟩ : ∃ nb, nb = w.heap.size := ⟨_, rfl⟩
  obtain ⟨W1, hW1⟩ : ∃ W1, W1 = (w.alloc (.cells #[.slice aN M cN, .slice aA 0 cA] 34)).alloc (.cells #[.int .i64 i0, .slice ca 0 cc] 31) := ⟨_, rfl⟩
  have f1 : Fr w W1 := by rw [hW1]; exact ((Fr.refl _).alloc _).alloc _
  have hN1 : Cel2 W1 nb (.slice aN M cN) (.slice aA 0 cA) := by rw [hW1, hnb]; exact (Cel2.new w _ _ _).fr ((Fr.refl _).alloc _)
  have hS1 : Cel2 W1 (nb + 1) (.int .i64 i0) (.slice ca 0 cc) := by
    have := Cel2.new (w.alloc (.cells #[.slice aN M cN, .slice aA 0 cA] 34)) (.int .i64 i0) (.slice ca 0 cc) 31
    rw [World.size_alloc] at this
    rw [hW1, hnb]; exact this
  go_enter Tryz.func9, Tryz.ntmps9
  go_upto_region 1 with (fail)
  rw [← hW1, ← hnb]
  clear hW1 hnb
  have n0 := hN1.a
  have n1' := hN1.b
  have s0' := hS1.a
  have s1' := hS1.b
  replace hN1 := Lib.hid hN1
  replace hS1 := Lib.hid hS1
  go_wp2_with fail
  refine (hck.out _ f1).mono ?_
  rintro e w2 ⟨rfl, hf2⟩
  replace n0 := hf2.keep n0
  replace n1' := hf2.keep n1'
  replace s0' := hf2.keep s0'
  replace s1' := hf2.keep s1'
  have f2 := f1.trans hf2
  go_wp2_with fail
  refine (hcs9.out _ f2).mono ?_
  rintro e w3 ⟨rfl, hf3⟩
  replace n0 := hf3.keep n0
  replace n1' := hf3.keep n1'
  replace s0' := hf3.keep s0'
  replace s1' := hf3.keep s1'
  have f3 := f2.trans hf3
  obtain ⟨ab, ao, y0, rfl, hbl, hy0, hc1, hc2, -⟩ := (hnm.out.fr f3).at (i := i0) (by rw [hM.out]; exact hi)
  obtain rfl : x = y0 := by rw [hx.out] at hy0; injection hy0
  rw [hx0, List.length_nil] at hc2
  rw [List.length_nil] at hin hbk
  replace hy0 := Lib.hid hy0
  replace hx0 := Lib.hid hx0
  have z0 : (0 : Int) ≤ (i0 : Int) := Int.natCast_nonneg _
  have z1 : (i0 : Int) < (M : Int) := by omega
  generalize x.ra = ra0 at *
  generalize x.rc = rc0 at *
  generalize x.nm = nm0 at *
  go_wp2_with fail
  refine (hin.out _ f3).mono ?_
  rintro e w4 ⟨v, rfl, hown, hf4⟩
  obtain ⟨av, cv, rfl⟩ : ∃ av cv, v = .slice av 0 cv := by
    rcases hown.2 with ⟨h1, h2⟩ | ⟨g', cap', cur', hv, _⟩
    · exact ⟨none, 0, h1⟩
    · exact ⟨_, _, hv⟩
  have f4 := f3.trans hf4
  replace n1' := hf4.keep n1'
  clear hown n0 s0' s1' hc1 hc2 hin hck hcs9
  go_wp2_with fail
  refine wp_loop_rounds 1 ?_
  rw [rounds_succ]
  go_wp2_with fail
  refine (hbk.out _ f4 _ _).mono ?_
  intro e wD hD
  obtain ⟨vD, rfl, hownD, -, hfD⟩ := hD.1 rfl
  obtain ⟨aD, cD, rfl, helD⟩ := own_readI hownD
  replace helD := Lib.hid helD
  clear hownD hD
  go_wp2_with fail
  go_ret2
  exact ⟨aD, cD, rfl, helD.out, rfl, f4.trans hfD⟩
end Go.Proofs.YtamffndlpminmaaGreatDoor

/- schismalaw42.NotationReads returns true at every draft and spelling. -/
namespace Go.Proofs.YtamffndlpminmaaGreatDoor
open Go.RowKit Go.Lib
attribute [local go_sem ↓] Go.wp_at_zero Go.wp_at_succ

/-- rows of small numbers -/
def Row9 (d : Nat) (q : List Int) : Prop := q.length = d ∧ ∀ x, x ∈ q → x.natAbs ≤ 9
theorem ti9 {x : Int} (h : x.natAbs ≤ 9) : Ti x := ⟨by omega, by omega⟩
theorem get_lt {l : List Int} {c : Nat} (h : c < l.length) : ∃ x, l[c]? = some x ∧ x ∈ l := ⟨_, List.getElem?_eq_getElem h, List.getElem_mem h⟩
theorem rdT_bd {RA : List (List Int)} {cs s0 : List Int} {d : Nat} (hA : ∀ i, i < d → Row9 d (rowAt RA i)) (hs : Row9 d s0) (hc : ∀ x, x ∈ cs → fitB x = true) (hl : cs.length = d) : ∀ i, i ≤ d → ∀ c, c < d → (((rdT RA cs s0 i)[c]?).getD 0).natAbs ≤ 9 + i * 9000000000
  | 0, _, c, hcd => by
    obtain ⟨x, hx, hm⟩ := get_lt (show c < s0.length by rw [hs.1]; exact hcd)
    show ((s0[c]?).getD 0).natAbs ≤ _
    rw [hx]
    have h1 := hs.2 _ hm
    show x.natAbs ≤ _
    omega
  | i + 1, hi, c, hcd => by
    have ih := rdT_bd hA hs hc hl i (by omega) c hcd
    have hr := hA i (by omega)
    obtain ⟨x, h1, m1⟩ := get_lt (show c < (rowAt RA i).length by rw [hr.1]; exact hcd)
    obtain ⟨y, h2, m2⟩ := get_lt (show c < (rdT RA cs s0 i).length by rw [rdT_len hs.1 (fun j hj => (hA j hj).1) i (by omega)]; exact hcd)
    obtain ⟨z, h3, m3⟩ := get_lt (show i < cs.length by omega)
    rw [h2] at ih
    rw [rdT, List.getElem?_zipWith, h1, h2, h3]
    have b1 := hr.2 _ m1
    have b2 : -1000000000 ≤ z ∧ z ≤ 1000000000 := of_decide_eq_true (hc _ m3)
    have b3 : (z * x).natAbs ≤ 1000000000 * 9 := by rw [Int.natAbs_mul]; exact Nat.mul_le_mul (by omega) b1
    have b4 := Int.natAbs_add_le y (z * x)
    have ih : y.natAbs ≤ 9 + i * 9000000000 := ih
    show (y + z * x).natAbs ≤ _
    omega
/-- a right notation of a draft in memory -/
structure Nt42 (w : World) (aN aA : Option Addr) (cN cA M d : Nat) (N A : List Sy) : Prop where
  hn : NotIs w aN aA cA N A
  hM : N.length = M
  hd : A.length = d
  d3 : d ≤ 3
  m1 : 1 ≤ M
  m8 : M ≤ 8
  rN : ∀ x, x ∈ N → x.nm.size = 1 ∧ Row9 d x.row
  rA : ∀ x, x ∈ A → x.nm.size = 1 ∧ Row9 d x.row
  fine : nchkE N A d = 0
  red : ∃ Fq, redTo ((A.map Sy.row).map qrow) d = some Fq ∧ Fq.lead.length = d
  nmN : N.map Sy.nm = (List.range M).map nmD
  nmA : A.map Sy.nm = (List.range d).map anD
theorem Nt42.fr {w w' : World} {aN aA : Option Addr} {cN cA M d : Nat} {N A : List Sy} (h : Nt42 w aN aA cN cA M d N A) (k : Fr w w') : Nt42 w' aN aA cN cA M d N A := ⟨h.hn.fr k, h.hM, h.hd, h.d3, h.m1, h.m8, h.rN, h.rA, h.fine, h.red, h.nmN, h.nmA⟩
theorem Nt42.check {w : World} {aN aA : Option Addr} {cN cA M d : Nat} {N A : List Sy} (h : Nt42 w aN aA cN cA M d N A) (hG : G w) : Calls Tryz.prog 25 #[.agg #[.slice aN M cN, .slice aA d cA]] w fun e w' => e = .returned (.int .i64 0) ∧ Fr w w' := by
  have hc := NCheck_any aN aA cN cA d N A w hG h.hn (fun x hx => by
    rcases List.mem_append.1 hx with h9 | h9
    · have h1 := (h.rN x h9).1
      have h2 := (h.rN x h9).2.1
      have := h.d3
      exact ⟨by omega, by omega⟩
    · have h1 := (h.rA x h9).1
      have h2 := (h.rA x h9).2.1
      have := h.d3
      exact ⟨by omega, by omega⟩) (by have := h.hM; have := h.m8; omega) (by have := h.hd; have := h.d3; omega) (fun _ _ _ _ => by
    have e : colsN (A.map Sy.row) = d := by
      have hd := h.hd
      match A, hd, h.rA with
      | [], hd, _ => exact hd
      | x :: A', _, hr => exact (hr x List.mem_cons_self).2.1
    rw [e]
    exact h.red)
  rw [h.fine, h.hM, h.hd] at hc
  exact hc
theorem Nt42.rowA {w : World} {aN aA : Option Addr} {cN cA M d : Nat} {N A : List Sy} (h : Nt42 w aN aA cN cA M d N A) : ∀ i, i < d → Row9 d (rowAt (A.map Sy.row) i) := fun i hi => by
  rw [rowAt_eq (by rw [List.length_map, h.hd]; exact hi), List.getElem_map]
  exact (h.rA _ (List.getElem_mem _)).2
theorem fit9 {x : Int} (h : x.natAbs ≤ 9) : fitB x = true := decide_eq_true ⟨by omega, by omega⟩
/-- the error of Read -/
def rdE (N A : List Sy) (i : Int) (cs : List Int) : Int := if spE N A i cs ≠ 0 then spE N A i cs else if (rdT (A.map Sy.row) cs (rowAt (N.map Sy.row) i.toNat) A.length).all fitB = true then 0 else 4
theorem spE_inv {N A : List Sy} {i : Int} {cs : List Int} (h : spE N A i cs = 0) : 0 ≤ i ∧ i.toNat < N.length ∧ cs.length = A.length ∧ ∀ x, x ∈ cs → fitB x = true := by
  unfold spE at h
  split at h
  · cases h
  · split at h
    · cases h
    · rename_i h1 h2
      exact ⟨by omega, by omega, Decidable.of_not_not h2, (nrowE_inv h).2⟩
def RdAll (w : World) (N A : List Sy) (d : Nat) (i : Int) (cs : List Int) (e : Ending) (w' : World) : Prop :=
  (rdE N A i cs = 0 → RdOk w (rdT (A.map Sy.row) cs (rowAt (N.map Sy.row) i.toNat) d) d e w') ∧ (rdE N A i cs ≠ 0 → e = .returned (.tuple #[.slice none 0 0, .int .i64 (rdE N A i cs)]) ∧ Fr w w')
theorem NRead42 (N A : List Sy) (M d m : Nat) (i : Int) (cs : List Int) (ca aN aA : Option Addr) (cc cN cA : Nat) (w : World) (hG : G w) (hn : Nt42 w aN aA cN cA M d N A) (hc : El w iv ca cs) (hm : cs.length = m) (hl : m ≤ 1000000000) :
    Calls Tryz.prog 9 #[.agg #[.slice aN M cN, .slice aA d cA], .agg #[.int .i64 i, .slice ca m cc]] w (RdAll w N A d i cs) := by
  have hck := fun W (hW : Fr w W) => (hn.fr hW).check (hG.fr hW)
  have hM := hn.hM
  have hd := hn.hd
  have d3 := hn.d3
  have m8 := hn.m8
  by_cases h0 : spE N A i cs = 0
  · obtain ⟨i1, i2, i3, i4⟩ := spE_inv h0
    obtain ⟨i0, rfl⟩ := Int.eq_ofNat_of_zero_le i1
    have i2 : i0 < N.length := i2
    obtain ⟨s0, hs0⟩ : ∃ s0, s0 = rowAt (N.map Sy.row) i0 := ⟨_, rfl⟩
    have hs1 : (N.map Sy.row)[i0]? = some s0 := by rw [hs0, rowAt_eq (by rw [List.length_map]; exact i2)]; exact List.getElem?_eq_getElem _
    have hx := List.getElem?_eq_getElem i2
    have hs2 : Row9 d s0 := by
      rw [hs0, rowAt_eq (by rw [List.length_map]; exact i2), List.getElem_map]
      exact (hn.rN _ (List.getElem_mem _)).2
    have hE : rdE N A (i0 : Int) cs = if (rdT (A.map Sy.row) cs s0 d).all fitB = true then 0 else 4 := by
      unfold rdE; rw [if_neg (by rw [h0]; simp), hd]; show (if (rdT _ _ (rowAt _ i0) _).all fitB = true then _ else _) = _; rw [hs0]
    unfold RdAll
    rw [hE]
    show Calls _ _ _ _ (fun e w' => (_ → RdOk w (rdT (A.map Sy.row) cs (rowAt (N.map Sy.row) i0) d) d e w') ∧ _)
    rw [← hs0]
    have hbd := rdT_bd hn.rowA hs2 i4 (by omega)
    by_cases hdz : d = 0
    · have hA0 : A = [] := List.eq_nil_of_length_eq_zero (by omega)
      have hs9 : s0 = [] := List.eq_nil_of_length_eq_zero (by rw [hs2.1]; exact hdz)
      have hm0 : m = 0 := by omega
      rw [hdz] at hck hE ⊢
      subst hm0
      have h := NRead_zero N M i0 ca aN aA cc cN cA w hG hn.hn.noms hM (by omega) (by omega) (fun x hx => List.eq_nil_of_length_eq_zero (by rw [(hn.rN x hx).2.1]; exact hdz)) hck
      refine h.mono fun e w' hr => ⟨fun _ => ?_, fun hne => ?_⟩
      · rw [show rdT (A.map Sy.row) cs s0 0 = [] from hs9]; exact hr
      · rw [show rdT (A.map Sy.row) cs s0 0 = [] from hs9] at hne
        exact absurd rfl hne
    · have h := NRead_any N A d i0 cs s0 ca aN aA cc cN cA w hG hn.hn (by omega) (by omega) hd (by omega) (fun q hq => by
        obtain ⟨x, hx, rfl⟩ := List.mem_map.1 hq
        exact ⟨(hn.rA x hx).2.1, fun y hy => fit9 ((hn.rA x hx).2.2 y hy)⟩) ⟨hs2.1, fun y hy => fit9 (hs2.2 y hy)⟩ hc (by omega) i4 i2 hs1 (fun j c hj hcd => by
        have h1 := hbd j (by omega) c hcd
        have h2 := hn.rowA j hj
        obtain ⟨x, h3, h4⟩ := get_lt (show c < (rowAt (A.map Sy.row) j).length by rw [h2.1]; exact hcd)
        rw [h3]
        have h5 : j * 9000000000 ≤ 3 * 9000000000 := Nat.mul_le_mul_right _ (by omega)
        exact ⟨⟨by omega, by omega⟩, ti9 (h2.2 x h4)⟩) (fun x hx => by
        obtain ⟨c, hc9, e⟩ := List.getElem_of_mem hx
        have hlen := rdT_len (cs := cs) hs2.1 (fun j hj => (hn.rowA j hj).1) d (Nat.le_refl _)
        have h1 := hbd d (Nat.le_refl _) c (by omega)
        rw [List.getElem?_eq_getElem hc9, e] at h1
        have h1 : x.natAbs ≤ 9 + d * 9000000000 := h1
        have h5 : d * 9000000000 ≤ 3 * 9000000000 := Nat.mul_le_mul_right _ d3
        exact ⟨by omega, by omega⟩) (by rw [hM, hd]; exact hck)
      rw [hM, hd, show d = m by omega] at h
      rw [show d = m by omega]
      refine h.mono fun e w' hr => ⟨fun hz => ?_, fun hne => ?_⟩
      · have hall : (rdT (A.map Sy.row) cs s0 m).all fitB = true := by
          cases hq : (rdT (A.map Sy.row) cs s0 m).all fitB with
          | true => rfl
          | false => rw [hq] at hz; cases hz
        obtain ⟨g, c, e1, e2, e3, e4⟩ := hr.1 hall
        exact ⟨_, c, e1, e2, e3, e4⟩
      · cases hq : (rdT (A.map Sy.row) cs s0 m).all fitB with
        | true => rw [hq] at hne; exact absurd rfl hne
        | false => exact hr.2 hq
  · have hE : rdE N A i cs = spE N A i cs := by unfold rdE; rw [if_pos h0]
    have h := NRead_err N A M d m i cs ca aN aA cc cN cA w hc hm hM hd hl (by omega) (by omega) _ rfl h0 hck
    unfold RdAll
    rw [hE]
    exact h.mono fun e w' hr => ⟨fun hz => absurd hz h0, fun _ => hr⟩
/-- what the law reads of a spelling without fault -/
theorem lread42 (N A : List Sy) (M d m : Nat) (i : Int) (cs : List Int) (ca aN aA : Option Addr) (cc cN cA : Nat) (w : World) (hG : G w) (hn : Nt42 w aN aA cN cA M d N A) (hc : El w iv ca cs) (hm : cs.length = m) (h0 : spE N A i cs = 0) :
    Calls Tryz.prog 11 #[.agg #[.slice aN M cN, .slice aA d cA], .agg #[.int .i64 i, .slice ca m cc]] w (ShRet w (rdT (A.map Sy.row) cs (rowAt (N.map Sy.row) i.toNat) d) d) := by
  have hM := hn.hM
  have hd := hn.hd
  have d3 := hn.d3
  have m8 := hn.m8
  obtain ⟨i1, i2, i3, i4⟩ := spE_inv h0
  obtain ⟨i0, rfl⟩ := Int.eq_ofNat_of_zero_le i1
  have i2 : i0 < N.length := i2
  obtain ⟨s0, hs0⟩ : ∃ s0, s0 = rowAt (N.map Sy.row) i0 := ⟨_, rfl⟩
  have hs1 : (N.map Sy.row)[i0]? = some s0 := by rw [hs0, rowAt_eq (by rw [List.length_map]; exact i2)]; exact List.getElem?_eq_getElem _
  have hs2 : Row9 d s0 := by
    rw [hs0, rowAt_eq (by rw [List.length_map]; exact i2), List.getElem_map]
    exact (hn.rN _ (List.getElem_mem _)).2
  have hbd := rdT_bd hn.rowA hs2 i4 (by omega)
  show Calls _ _ _ _ (ShRet w (rdT (A.map Sy.row) cs (rowAt (N.map Sy.row) i0) d) d)
  rw [← hs0, show m = d by omega]
  exact read42_any N A d i0 cs s0 ca aN aA cc cN cA M w hG hn.hn (by omega) hd hM (by omega) (fun q hq => by
    obtain ⟨x, hx, rfl⟩ := List.mem_map.1 hq
    exact (hn.rA x hx).2.1) hc (by omega) i4 (by omega) hs1 hs2.1 (fun j c hj hcd => by
    have h1 := hbd j hj c hcd
    have h5 : j * 9000000000 ≤ 3 * 9000000000 := Nat.mul_le_mul_right _ (by omega)
    exact ⟨by omega, by omega⟩) (fun j c hj hcd => by
    have h2 := hn.rowA j hj
    obtain ⟨x, h3, h4⟩ := get_lt (show c < (rowAt (A.map Sy.row) j).length by rw [h2.1]; exact hcd)
    rw [h3]
    have := h2.2 x h4
    show x.natAbs < _
    omega)
end Go.Proofs.YtamffndlpminmaaGreatDoor

/- The notation of a right draft. -/
namespace Go.Proofs.YtamffndlpminmaaGreatDoor
open Go.RowKit Go.Lib
attribute [local go_sem ↓] Go.wp_at_zero Go.wp_at_succ

theorem nomsD_nms (d : Nat) (L : List (List Int)) : (nomsD d L).map Prod.fst = (List.range (nomsD d L).length).map nmD := by
  unfold nomsD
  split
  · rfl
  · refine List.ext_getElem? (fun i => ?_)
    rw [List.getElem?_map, List.getElem?_mapIdx, List.getElem?_map, List.length_mapIdx]
    by_cases hi : i < (L.take 8).length
    · rw [List.getElem?_eq_getElem hi, List.getElem?_range hi]; rfl
    · rw [List.getElem?_eq_none (by omega), List.getElem?_eq_none (by rw [List.length_range]; omega)]; rfl
/-- the draft's notation is right -/
theorem nt42_of {w : World} {aN aA : Option Addr} {cN cA d r : Nat} {N A : List Sy} {L B : List (List Int)} (hn : NotIs w aN aA cA N A) (hN : bare N = nomsD d L) (hA : bare A = accsD d B) (d3 : d ≤ 3) (hL : Tri8 L) (hB : Tri8 B) (hBl : B.length = 3) (hf : nchkE N A r = 0) (hr : r ≤ d) (hred : r = d → ∃ Fq, redTo (((accsD d B).map Prod.snd).map qrow) d = some Fq ∧ Fq.lead.length = d) : Nt42 w aN aA cN cA N.length d N A := by
  have hd : A.length = d := by rw [← bare_len, hA]; unfold accsD; rw [List.length_map, List.length_range]
  have hpA := accsD_ok d3 hB hBl
  have hpN := nomsD_ok (d := d) d3 hL
  have hrd : r = d := by
    have h := hf
    unfold nchkE at h
    split at h
    · cases h
    · split at h
      · cases h
      · split at h
        · rename_i h1 h2 h3; exact absurd h h3
        · split at h
          · cases h
          · omega
  have hm : 1 ≤ N.length ∧ N.length ≤ 8 := by
    rw [← bare_len, hN]
    unfold nomsD
    split
    · exact ⟨Nat.le_refl _, by simp⟩
    · rename_i h
      rw [List.length_mapIdx, List.length_take]
      have := List.length_pos_iff.2 h
      omega
  refine ⟨hn, rfl, hd, d3, hm.1, hm.2, fun x hx => ?_, fun x hx => ?_, by rw [← hrd]; exact hf, ?_, ?_, ?_⟩
  · obtain ⟨h1, h2, h3⟩ := hpN _ (by rw [← hN]; exact bare_mem rfl hx)
    exact ⟨h1, h2, h3⟩
  · obtain ⟨h1, h2, h3⟩ := hpA _ (by rw [← hA]; exact bare_mem rfl hx)
    exact ⟨h1, h2, h3⟩
  · have := hred hrd
    rw [← hA, bare_rows] at this
    exact this
  · rw [← bare_nms, hN, ← bare_len, hN]; exact nomsD_nms d L
  · rw [← bare_nms, hA]; unfold accsD; rw [List.map_map]; rfl
end Go.Proofs.YtamffndlpminmaaGreatDoor

/- schismalaw42.NotationReads returns true at every draft and spelling. -/
namespace Go.Proofs.YtamffndlpminmaaGreatDoor
open Go.RowKit Go.Lib
attribute [local go_sem ↓] Go.wp_at_zero Go.wp_at_succ

set_option maxRecDepth 100000 in
set_option maxHeartbeats 8000000 in
theorem NotationReads_any (R : Int) (hR0 : 0 ≤ R) (hR1 : R ≤ 255) (L : List (List Int)) (a : Option Addr) (c : Nat) (b0 b1 b2 b3 b4 b5 b6 b7 b8 : Int) (i : Int) (cs : List Int) (ca : Option Addr) (cc : Nat) (w : World) (hG : G w) (hmx : ∃ m, w.cell? ⟨3, 0, none⟩ = some (.int .i64 m)) (hL : TriIs w a L) (hL8 : Tri8 L) (hB8 : Tri8 [[b0, b1, b2], [b3, b4, b5], [b6, b7, b8]]) (hc : El w iv ca cs) :
    Calls Tryz.prog 3 #[.agg #[.int .u8 R, .slice a L.length c, .int .i8 b0, .int .i8 b1, .int .i8 b2, .int .i8 b3, .int .i8 b4, .int .i8 b5, .int .i8 b6, .int .i8 b7, .int .i8 b8], .agg #[.int .i64 i, .slice ca cs.length cc]] w fun e w' => e = .returned (.bool true) ∧ Fr w w' := by
  have hk := Lib.hid (fun W (hW : Fr w W) => known42_any W (hG.fr hW) (hmx.imp fun m h => hW.keep h))
  obtain ⟨d, hd⟩ : ∃ d : Nat, (d : Int) = R % 4 := ⟨(R % 4).toNat, by omega⟩
  have hd3 : d ≤ 3 := by omega
  have hmk := Lib.hid (fun W (hW : Fr w W) => Make42_any R hR0 hR1 d hd L a c b0 b1 b2 b3 b4 b5 b6 b7 b8 W (hG.fr hW) (hL.fr hW) hL8 hB8)
  have hGf := Lib.hid (fun W (hW : Fr w W) => hG.fr hW)
  obtain ⟨m, hm⟩ : ∃ m, m = cs.length := ⟨_, rfl⟩
  obtain ⟨l, hl⟩ : ∃ l, l = L.length := ⟨_, rfl⟩
  rw [← hl] at hmk ⊢
  rw [← hm]
  replace hm := Lib.hid hm
  replace hl := Lib.hid hl
  replace hd := Lib.hid hd
  replace hL8 := Lib.hid hL8
  replace hB8 := Lib.hid hB8
  replace hc := Lib.hid hc
  clear hG hmx hL
  have f1 : Fr w ((w.alloc (.cells #[.int .u8 R, .slice a l c, .int .i8 b0, .int .i8 b1, .int .i8 b2, .int .i8 b3, .int .i8 b4, .int .i8 b5, .int .i8 b6, .int .i8 b7, .int .i8 b8] 27)).alloc (.cells #[.int .i64 i, .slice ca m cc] 31)) := ((Fr.refl _).alloc _).alloc _
  have hS1 := Cel2.new (w.alloc (.cells #[.int .u8 R, .slice a l c, .int .i8 b0, .int .i8 b1, .int .i8 b2, .int .i8 b3, .int .i8 b4, .int .i8 b5, .int .i8 b6, .int .i8 b7, .int .i8 b8] 27)) (.int .i64 i) (.slice ca m cc) 31
  rw [World.size_alloc] at hS1
  go_enter Tryz.func3, Tryz.ntmps3
  go_wp2_with fail
  refine (hmk.out _ f1).mono ?_
  rintro e w1 ⟨N, A, aN, cN, aA, cA, r, fine, hN, hA, hn, hf1, hfine, hr1, hr2, rfl⟩
  have f2 := f1.trans hf1
  have hS2 := Lib.hid (hS1.fr hf1)
  clear hS1 f1 hf1
  obtain ⟨M, hM⟩ : ∃ M, M = N.length := ⟨_, rfl⟩
  have hAd : A.length = d := by rw [← bare_len, hA]; unfold accsD; rw [List.length_map, List.length_range]
  have hnt := fun (hf : nchkE N A r = 0) => nt42_of (cN := cN) hn hN hA hd3 hL8.out hB8.out rfl hf hr1 hr2
  rw [← hM] at hnt ⊢
  rw [hAd]
  replace hM := Lib.hid hM
  replace hAd := Lib.hid hAd
  obtain ⟨nb, hnb⟩ : ∃ nb, nb = w1.heap.size := ⟨_, rfl⟩
  obtain ⟨W3, hW3⟩ : ∃ W3, W3 = w1.alloc (.cells #[.slice aN M cN, .slice aA d cA] 34) := ⟨_, rfl⟩
  have f13 : Fr w1 W3 := by rw [hW3]; exact (Fr.refl _).alloc _
  have hC3 : Cel2 W3 nb (.slice aN M cN) (.slice aA d cA) := by rw [hW3, hnb]; exact Cel2.new _ _ _ _
  have hS3 := hS2.out.fr f13
  have f3 := f2.trans f13
  cases fine with
  | false =>
    clear hnt hfine hN hA hn hr1 hr2
    go_upto_region 2 with (fail)
    rw [← hW3, ← hnb]
    clear hW3
    replace hnb := Lib.hid hnb
    have s1 := hS3.b
    replace hS3 := Lib.hid hS3
    go_wp2_with fail
    refine (hk.out _ f3).mono ?_
    rintro e w4 ⟨rfl, hf4⟩
    go_wp2_with fail
    refine (hk.out _ (f3.trans hf4)).mono ?_
    rintro e w5 ⟨rfl, hf5⟩
    go_wp2_with fail
    go_ret
    exact ⟨rfl, (f3.trans hf4).trans hf5⟩
  | true =>
    have hN3 := (hnt (of_decide_eq_true hfine.symm)).fr f13
    clear hnt hfine hN hA hn hr1 hr2
    go_upto_region 2 with (fail)
    rw [← hW3, ← hnb]
    clear hW3
    replace hnb := Lib.hid hnb
    have n0 := hC3.a
    have n1 := hC3.b
    have s0 := hS3.a
    have s1 := hS3.b
    replace hS3 := Lib.hid hS3
    replace hC3 := Lib.hid hC3
    by_cases h5 : 5 < m
    · have d5 : decide ((5 : Int) < (m : Int)) = true := decide_eq_true (by omega)
      clear hN3
      have s1h := Lib.hid (fun W (hW : Fr W3 W) => hW.keep s1)
      go_wp2_with fail
      refine (hk.out _ f3).mono ?_
      rintro e w4 ⟨rfl, hf4⟩
      have s14 := s1h.out _ hf4
      go_wp2_with fail
      refine (hk.out _ (f3.trans hf4)).mono ?_
      rintro e w5 ⟨rfl, hf5⟩
      go_wp2_with fail
      go_ret
      exact ⟨rfl, (f3.trans hf4).trans hf5⟩
    · have d5 : decide ((5 : Int) < (m : Int)) = false := decide_eq_false (by omega)
      have hrd := Lib.hid (fun W (hW : Fr W3 W) => NRead42 N A M d m i cs ca aN aA cc cN cA W (hGf.out _ (f3.trans hW)) (hN3.fr hW) (hc.out.fr (f3.trans hW)) hm.out.symm (by omega))
      have hsp := Lib.hid (fun W (hW : Fr W3 W) => spelling42_any aN aA cN cA N A i cs ca cc W (hc.out.fr (f3.trans hW)) (by rw [← hm.out]; omega) (by rw [hN3.hM]; have := hN3.m8; omega) (by rw [hN3.hd]; omega))
      rw [hN3.hM, hN3.hd, ← hm.out] at hsp
      have hN9 := Lib.hid hN3
      clear hN3
      go_wp2_with fail
      refine (hk.out _ f3).mono ?_
      rintro e w4 ⟨rfl, hf4⟩
      replace n0 := hf4.keep n0
      replace n1 := hf4.keep n1
      replace s0 := hf4.keep s0
      replace s1 := hf4.keep s1
      go_wp2_with fail
      refine (hrd.out _ hf4).mono ?_
      intro e w5 hr5
      by_cases hE : rdE N A i cs = 0
      · have hsp0 : spE N A i cs = 0 := by
          have h := hE
          unfold rdE at h
          split at h
          · rename_i h1; exact absurd h h1
          · rename_i h1; exact Decidable.of_not_not h1
        rw [hsp0] at hsp
        obtain ⟨ar, cr, rfl, helr, hlr, hf5⟩ := hr5.1 hE
        have hlw := Lib.hid (fun W (hW : Fr W3 W) => lread42 N A M d m i cs ca aN aA cc cN cA W (hGf.out _ (f3.trans hW)) (hN9.out.fr hW) (hc.out.fr (f3.trans hW)) hm.out.symm hsp0)
        have hall : (rdT (A.map Sy.row) cs (rowAt (N.map Sy.row) i.toNat) d).all fitB = true := by
          have h := hE
          unfold rdE at h
          rw [if_neg (by rw [hsp0]; simp), hN9.out.hd] at h
          split at h
          · assumption
          · cases h
        have hf35 := hf4.trans hf5
        replace n0 := hf5.keep n0
        replace n1 := hf5.keep n1
        replace s0 := hf5.keep s0
        replace s1 := hf5.keep s1
        generalize rdT (A.map Sy.row) cs (rowAt (N.map Sy.row) i.toNat) d = xs at *
        replace helr := Lib.hid helr
        replace hlr := Lib.hid hlr
        replace hall := Lib.hid hall
        replace hsp0 := Lib.hid hsp0
        replace hE := Lib.hid hE
        clear hr5
        go_wp2_with fail
        refine (hsp.out _ hf35).mono ?_
        rintro e w6 ⟨rfl, hf6⟩
        replace n0 := hf6.keep n0
        replace n1 := hf6.keep n1
        replace s0 := hf6.keep s0
        replace s1 := hf6.keep s1
        have hf36 := hf35.trans hf6
        go_wp2_with fail
        refine (hlw.out _ hf36).mono ?_
        intro e w7 hr7
        obtain ⟨a7, c7, rfl, hel7, hl7, hf7⟩ := hr7.1 hall.out
        have hre := Lib.hid (REqual_any xs xs ar a7 cr c7 d d w7 ((helr.out.fr hf6).fr hf7) hel7 hl7 hl7 (by omega) (by omega))
        rw [decide_eq_true rfl] at hre
        replace hel7 := Lib.hid hel7
        replace hl7 := Lib.hid hl7
        clear hr7
        go_wp2_with fail
        refine hre.out.mono ?_
        rintro e w8 ⟨rfl, hf8⟩
        go_wp2_with fail
        go_ret
        exact ⟨rfl, ((f3.trans hf36).trans hf7).trans hf8⟩
      · obtain ⟨rfl, hf5⟩ := hr5.2 hE
        have hf35 := hf4.trans hf5
        replace n0 := hf5.keep n0
        replace n1 := hf5.keep n1
        replace s0 := hf5.keep s0
        replace s1 := hf5.keep s1
        by_cases hsp0 : spE N A i cs = 0
        · have hlw := Lib.hid (fun W (hW : Fr W3 W) => lread42 N A M d m i cs ca aN aA cc cN cA W (hGf.out _ (f3.trans hW)) (hN9.out.fr hW) (hc.out.fr (f3.trans hW)) hm.out.symm hsp0)
          have h45 : rdE N A i cs = 4 ∧ (rdT (A.map Sy.row) cs (rowAt (N.map Sy.row) i.toNat) d).all fitB = false := by
            have h := hE
            unfold rdE at h ⊢
            rw [if_neg (by rw [hsp0]; simp), hN9.out.hd] at h ⊢
            cases hq : (rdT (A.map Sy.row) cs (rowAt (N.map Sy.row) i.toNat) d).all fitB with
            | true => rw [hq] at h; exact absurd rfl h
            | false => exact ⟨rfl, rfl⟩
          obtain ⟨hE4, hall⟩ := h45
          rw [hE4]
          rw [hsp0] at hsp
          generalize rdT (A.map Sy.row) cs (rowAt (N.map Sy.row) i.toNat) d = xs at *
          replace hall := Lib.hid hall
          replace hsp0 := Lib.hid hsp0
          clear hr5 hE hE4
          go_wp2_with fail
          refine (hsp.out _ hf35).mono ?_
          rintro e w6 ⟨rfl, hf6⟩
          replace n0 := hf6.keep n0
          replace n1 := hf6.keep n1
          replace s0 := hf6.keep s0
          replace s1 := hf6.keep s1
          have hf36 := hf35.trans hf6
          go_wp2_with fail
          refine (hlw.out _ hf36).mono ?_
          intro e w7 hr7
          obtain ⟨rfl, hf7⟩ := hr7.2 hall.out
          clear hr7
          go_wp2_with fail
          go_ret
          exact ⟨rfl, (f3.trans hf36).trans hf7⟩
        · have hEE : rdE N A i cs = spE N A i cs := by unfold rdE; rw [if_pos hsp0]
          rw [hEE]
          obtain ⟨E, hEd⟩ : ∃ E, E = spE N A i cs := ⟨_, rfl⟩
          rw [← hEd] at hsp hsp0 ⊢
          have q1 : (E == 0) = false := beq_false_of_ne hsp0
          have q2 : (E != 0) = true := by rw [bne_iff_ne]; exact hsp0
          have q3 : (E == E) = true := beq_self_eq_true E
          clear hr5 hE hEE
          replace hEd := Lib.hid hEd
          replace hsp0 := Lib.hid hsp0
          go_wp2_with fail
          refine (hsp.out _ hf35).mono ?_
          rintro e w6 ⟨rfl, hf6⟩
          go_wp2_with fail
          go_ret
          exact ⟨rfl, ((f3.trans hf35)).trans hf6⟩
end Go.Proofs.YtamffndlpminmaaGreatDoor
