/-
  Contracts and laws for the statements of the seat, QNA.
-/
import Derived.Test.YtamffndlpminmaaGreatDoorQL

/- notation.Read of a right spelling with small numbers. -/
namespace Go.Proofs.YtamffndlpminmaaGreatDoor
open Go.RowKit Go.Lib
attribute [local go_sem ↓] Go.wp_at_zero Go.wp_at_succ

/-- the sum of a nominal's row and of the first accidentals -/
def rdT (RA : List (List Int)) (cs s0 : List Int) : Nat → List Int
  | 0 => s0
  | i + 1 => List.zipWith (fun a x => a + (cs[i]?).getD 0 * x) (rdT RA cs s0 i) (rowAt RA i)
instance decTi (n : Int) : Decidable (Ti n) := by unfold Ti; infer_instance
instance decSm (n : Int) : Decidable (Sm n) := by unfold Sm; infer_instance
/-- all numbers are small -/
def rdOk (RA : List (List Int)) (cs s0 : List Int) (d : Nat) : Bool :=
  (List.range d).all fun i => decide (Ti ((cs[i]?).getD 0)) && (List.range d).all fun c => decide (Sm (((rdT RA cs s0 i)[c]?).getD 0)) && decide (Ti (((rowAt RA i)[c]?).getD 0))
theorem rdOk_at {RA : List (List Int)} {cs s0 : List Int} {d i c : Nat} (h : rdOk RA cs s0 d = true) (hi : i < d) (hc : c < d) : Ti ((cs[i]?).getD 0) ∧ Sm (((rdT RA cs s0 i)[c]?).getD 0) ∧ Ti (((rowAt RA i)[c]?).getD 0) := by
  have h1 := List.all_eq_true.1 h i (List.mem_range.2 hi)
  rw [Bool.and_eq_true] at h1
  have h2 := List.all_eq_true.1 h1.2 c (List.mem_range.2 hc)
  rw [Bool.and_eq_true] at h2
  exact ⟨of_decide_eq_true h1.1, of_decide_eq_true h2.1, of_decide_eq_true h2.2⟩
theorem rdT_len {RA : List (List Int)} {cs s0 : List Int} {d : Nat} (hs : s0.length = d) (hr : ∀ i, i < d → (rowAt RA i).length = d) : ∀ i, i ≤ d → (rdT RA cs s0 i).length = d
  | 0, _ => hs
  | i + 1, h => by
    rw [rdT, List.length_zipWith, rdT_len hs hr i (by omega), hr i (by omega)]
    omega
def NRdRet (w : World) (xs : List Int) (d : Nat) (e : Ending) (w' : World) : Prop := ∃ g c, e = .returned (.tuple #[.slice (some ⟨g, 0, none⟩) d c, .int .i64 0]) ∧ El w' iv (some ⟨g, 0, none⟩) xs ∧ xs.length = d ∧ Fr w w'

set_option maxRecDepth 100000 in
set_option maxHeartbeats 16000000 in
theorem NRead_ok (N A : List Sy) (d i0 : Nat) (I : List (List Rat)) (cs s0 : List Int) (ca aN aA : Option Addr) (cc cN cA : Nat) (w : World) (hG : G w) (hn : NotIs w aN aA cA N A) (hU : NtOk (N.map Sy.row) (A.map Sy.row) d I) (hc : El w iv ca cs) (hcl : cs.length = d) (hcf : ∀ x, x ∈ cs → fitB x = true)
    (hi0 : i0 < N.length) (hs0 : (N.map Sy.row)[i0]? = some s0) (hok : rdOk (A.map Sy.row) cs s0 d = true) (hfin : ∀ x, x ∈ rdT (A.map Sy.row) cs s0 d → fitB x = true)
    (hck : ∀ W, Fr w W → Calls Tryz.prog 25 #[.agg #[.slice aN N.length cN, .slice aA A.length cA]] W fun e w' => e = .returned (.int .i64 0) ∧ Fr W w') :
    Calls Tryz.prog 9 #[.agg #[.slice aN N.length cN, .slice aA A.length cA], .agg #[.int .i64 i0, .slice ca d cc]] w (NRdRet w (rdT (A.map Sy.row) cs s0 d) d) := by
  obtain ⟨d1, d6, lenA, n1, n60, rowA, rowN, -, -, -⟩ := hU
  have hgn := gN_le hG
  rw [List.length_map] at lenA n1 n60
  have hcs9 := fun W (hW : Fr w W) => NcheckSp_any aN aA cN cA N A i0 cs ca cc W (hc.fr hW) (by omega) (by omega) (by omega)
  have hsp : spE N A i0 cs = 0 := by
    unfold spE
    rw [if_neg (by omega), if_neg (by omega)]
    exact rowE_ok (by omega) (List.any_eq_false.2 (fun x hx => by rw [hcf x hx]; simp))
  rw [hsp] at hcs9
  rw [lenA] at hck hcs9 ⊢
  rw [hcl] at hcs9
  obtain ⟨M, hM⟩ : ∃ M, M = N.length := ⟨_, rfl⟩
  rw [← hM] at n1 n60 hck hi0 hcs9 ⊢
  obtain ⟨x0, hx0, hx0r⟩ : ∃ x0, N[i0]? = some x0 ∧ x0.row = s0 := by
    rw [List.getElem?_map] at hs0
    obtain ⟨x0, h1, h2⟩ := Option.map_eq_some_iff.1 hs0
    exact ⟨x0, h1, h2⟩
  have hx0m := List.mem_of_getElem? hx0
  have r0 := rowN s0 (List.mem_of_getElem? hs0)
  have hin := Lib.hid (fun (W : World) (hW : Fr w W) => NInts_sm s0 x0.ra x0.rc W (hG.fr hW) (by rw [← hx0r]; exact (hn.noms.2 x0 hx0m).fr hW) (by omega) (fun x hx => fits_sm (r0.2 x hx)))
  have hrA : ∀ i, i < d → (rowAt (A.map Sy.row) i).length = d := fun i hi => by
    have hi2 : i < (A.map Sy.row).length := by rw [List.length_map]; omega
    rw [rowAt_eq hi2]
    exact (rowA _ (List.getElem_mem hi2)).1
  have hlen := Lib.hid (fun i (hi : i ≤ d) => rdT_len (RA := A.map Sy.row) (cs := cs) r0.1 hrA i hi)
  have hat : ∀ (i : Nat) (x : Sy), A[i]? = some x → rowAt (A.map Sy.row) i = x.row ∧ x.row.length = d ∧ ∀ z, z ∈ x.row → fitB z = true := fun i x hx => by
    have h1 : (A.map Sy.row)[i]? = some x.row := by rw [List.getElem?_map, hx]; rfl
    have h2 := List.getElem?_eq_some_iff.1 h1
    exact ⟨by rw [rowAt_eq h2.1]; exact h2.2, rowA _ (List.mem_of_getElem? h1)⟩
  have hbk := Lib.hid (fun (W : World) (hW : Fr w W) (g c : Nat) (h : El W sv (some ⟨g, 0, none⟩) (rdT (A.map Sy.row) cs s0 d)) => NBack_ok (rdT (A.map Sy.row) cs s0 d) (some ⟨g, 0, none⟩) c W (hG.fr hW) h (by rw [hlen.out d (Nat.le_refl _)]; omega) hfin)
  have hz : ∀ i c, i < d → c < d → Ti ((cs[i]?).getD 0) ∧ Sm (((rdT (A.map Sy.row) cs s0 i)[c]?).getD 0) ∧ Ti (((rowAt (A.map Sy.row) i)[c]?).getD 0) := fun i c hi hc => rdOk_at hok hi hc
  have hGf := Lib.hid (fun W (hW : Fr w W) => hG.fr hW)
  have hnm := Lib.hid hn.noms
  have hac := Lib.hid hn.accs
  have hl0 : x0.row.length = d := by rw [hx0r]; exact r0.1
  rw [r0.1] at hin
  replace hat := Lib.hid hat
  replace hz := Lib.hid hz
  replace hc := Lib.hid hc
  replace hcl := Lib.hid hcl
  replace hck := Lib.hid hck
  replace hcs9 := Lib.hid hcs9
  replace hM := Lib.hid hM
  replace hx0 := Lib.hid hx0
  replace lenA := Lib.hid lenA
  replace hl0 := Lib.hid hl0
  generalize A.map Sy.row = RA at *
  clear hG hn rowA rowN hs0 hok hfin hsp r0 hcf hrA hx0r hx0m
  obtain ⟨nb, hnb⟩ : ∃ nb, nb = w.heap.size := ⟨_, rfl⟩
  obtain ⟨W1, hW1⟩ : ∃ W1, W1 = (w.alloc (.cells #[.slice aN M cN, .slice aA d cA] 34)).alloc (.cells #[.int .i64 i0, .slice ca d cc] 31) := ⟨_, rfl⟩
  have f1 : Fr w W1 := by rw [hW1]; exact ((Fr.refl _).alloc _).alloc _
  have hN1 : Cel2 W1 nb (.slice aN M cN) (.slice aA d cA) := by rw [hW1, hnb]; exact (Cel2.new w _ _ _).fr ((Fr.refl _).alloc _)
  have hS1 : Cel2 W1 (nb + 1) (.int .i64 i0) (.slice ca d cc) := by
    have := Cel2.new (w.alloc (.cells #[.slice aN M cN, .slice aA d cA] 34)) (.int .i64 i0) (.slice ca d cc) 31
    rw [World.size_alloc] at this
    rw [hW1, hnb]; exact this
  go_enter Tryz.func9, Tryz.ntmps9
  go_upto_region 1 with (fail)
  rw [← hW1, ← hnb]
  clear hW1
  replace hnb := Lib.hid hnb
  have n0 := hN1.a
  have n1' := hN1.b
  have s0' := hS1.a
  have s1' := hS1.b
  replace hN1 := Lib.hid hN1
  replace hS1 := Lib.hid hS1
  go_wp2_with fail
  refine (hck.out _ f1).mono ?_
  rintro e w2 ⟨rfl, hf2⟩
  replace n0 := hf2.keep n0
  replace n1' := hf2.keep n1'
  replace s0' := hf2.keep s0'
  replace s1' := hf2.keep s1'
  have f2 := f1.trans hf2
  go_wp2_with fail
  refine (hcs9.out _ f2).mono ?_
  rintro e w3 ⟨rfl, hf3⟩
  replace n0 := hf3.keep n0
  replace n1' := hf3.keep n1'
  replace s0' := hf3.keep s0'
  replace s1' := hf3.keep s1'
  have f3 := f2.trans hf3
  have f13 := hf2.trans hf3
  obtain ⟨ab, ao, y0, rfl, hbl, hy0, hc1, hc2, -⟩ := (hnm.out.fr f3).at (i := i0) (by rw [← hM.out]; exact hi0)
  obtain rfl : x0 = y0 := by rw [hx0.out] at hy0; injection hy0
  rw [hl0.out] at hc2
  replace hy0 := Lib.hid hy0
  have z0 : (0 : Int) ≤ (i0 : Int) := Int.natCast_nonneg _
  have z1 : (i0 : Int) < (M : Int) := by omega
  generalize x0.ra = ra0 at *
  generalize x0.rc = rc0 at *
  generalize x0.nm = nm0 at *
  go_wp2_with fail
  refine (hin.out _ f3).mono ?_
  rintro e w4 ⟨v, rfl, hown, hf4⟩
  have hsl := hlen.out 0 (Nat.zero_le _)
  rw [show rdT RA cs s0 0 = s0 from rfl] at hsl
  rw [hsl] at hown
  obtain ⟨g, gc, rfl, -⟩ := World.ownsRow.form hown (by omega)
  have hO := (ownsRow_own (by have := f3.size; omega) hown).1
  have hgw := (hown.lt g rfl).1
  have f4 := f3.trans hf4
  replace n1' := hf4.keep n1'
  clear n0 s0' s1' hc1 hc2 hown hin hck hcs9
  replace hO := Lib.hid hO
  replace hsl := Lib.hid hsl
  have f14 := f13.trans hf4
  have hzz : w.heap.size ≤ w3.heap.size := f3.size
  go_wp2_with fail
  go_loopg [36] d (fun k s36 wr => ∃ i : Nat, s36 = .int .i64 i ∧ i + k = d ∧ Fx (· = g) w4 wr ∧ Hid (Own wr g 0 (rdT RA cs s0 i)))
  case atStart => exact ⟨0, rfl, by omega, Fx.refl _ _, hO.out⟩
  case round =>
    clear hO n1'
    obtain ⟨i, rfl, hik, hfx, hO⟩ := hrel
    have hF3 : Fr w3 wr := ((Fx.of_fr hf4).trans hfx).toFr (fun k hk e => by have e : k = g := e; omega)
    have hFr := f3.trans hF3
    obtain ⟨wo, rfl⟩ : ∃ wo : World, wo = wr := ⟨_, rfl⟩
    obtain ⟨ko, rfl⟩ : ∃ ko : Nat, ko = gk := ⟨_, rfl⟩
    by_cases hi : i < d
    · have hdI : decide (i < d) = true := decide_eq_true hi
      obtain ⟨bb, bo, x, hae, hbl, hxi, hc1, hc2, -⟩ := (hac.out.fr hFr).at (i := i) (by rw [lenA.out]; exact hi)
      have hel := hac.out.2 x (List.mem_of_getElem? hxi)
      subst hae
      obtain ⟨hx1, hx2, hx3⟩ := hat.out i x hxi
      rw [hx2] at hc2
      have y0 : (0 : Int) ≤ (i : Int) := Int.natCast_nonneg _
      have y1 : (i : Int) < (d : Int) := by omega
      obtain ⟨W6, hW6⟩ : ∃ W6, W6 = wo.alloc (.cells #[.string x.nm, .slice x.ra d x.rc] 56) := ⟨_, rfl⟩
      have f6 : Fr wo W6 := by rw [hW6]; exact (Fr.refl _).alloc _
      obtain ⟨xb, hxb⟩ : ∃ xb, xb = wo.heap.size := ⟨_, rfl⟩
      have hX6 : Cel2 W6 xb (.string x.nm) (.slice x.ra d x.rc) := by rw [hW6, hxb]; exact Cel2.new _ _ _ _
      have hxg : xb ≠ g := by have := hO.out.2.1; omega
      have hO6 := Lib.hid (hO.out.fr f6)
      have hfx6 := hfx.fr f6
      have hel6 := Lib.hid hel
      go_upto_region 11 with (fail)
      rw [← hW6, ← hxb]
      clear hW6 hc1 hc2 hel
      replace hxb := Lib.hid hxb
      replace hxi := Lib.hid hxi
      replace hx1 := Lib.hid hx1
      replace hx3 := Lib.hid hx3
      generalize x.ra = xa at *
      generalize x.rc = xc at *
      generalize x.nm = xn at *
      replace hX6 := Lib.hid hX6
      have hF36 : Fr w3 W6 := hF3.trans f6
      go_wp2_with fail
      go_loopg [43] d (fun k s43 wr => ∃ c : Nat, s43 = .int .i64 c ∧ c + k = d ∧ Fx (· = g) W6 wr ∧ Hid (Own wr g 0 ((rdT RA cs s0 (i + 1)).take c ++ (rdT RA cs s0 i).drop c)))
      case atStart => exact ⟨0, rfl, by omega, Fx.refl _ _, by show Own _ _ _ _; rw [List.take_zero, List.drop_zero, List.nil_append]; exact hO6.out⟩
      case round =>
        clear hO6
        obtain ⟨c, rfl, hck, hfx7, hO7⟩ := hrel
        obtain ⟨wv, rfl⟩ : ∃ wv : World, wv = wr := ⟨_, rfl⟩
        obtain ⟨kv, rfl⟩ : ∃ kv : Nat, kv = gk := ⟨_, rfl⟩
        have hl1 := hlen.out i (by omega)
        have hl2 := hlen.out (i + 1) (by omega)
        by_cases hcd : c < d
        · have hdC : decide (c < d) = true := decide_eq_true hcd
          obtain ⟨q1, q2, q3⟩ := hz.out i c hi hcd
          obtain ⟨kc, hkc⟩ : ∃ kc, cs[i]? = some kc := ⟨_, List.getElem?_eq_getElem (by rw [hcl.out]; exact hi)⟩
          obtain ⟨xe, hxe⟩ : ∃ xe, x.row[c]? = some xe := ⟨_, List.getElem?_eq_getElem (by omega)⟩
          obtain ⟨se, hse⟩ : ∃ se, (rdT RA cs s0 i)[c]? = some se := ⟨_, List.getElem?_eq_getElem (by omega)⟩
          have hnew : (rdT RA cs s0 (i + 1))[c]? = some (se + kc * xe) := by
            rw [rdT, List.getElem?_zipWith, hse, hx1.out, hxe, hkc]; rfl
          rw [hx1.out] at q3
          rw [hkc] at q1
          rw [hse] at q2
          rw [hxe] at q3
          simp only [Option.getD_some] at q1 q2 q3
          have hm2 := mul_bd q1 q3
          have sm : Sm (kc * xe) := ⟨by omega, by omega⟩
          have hmid := (mid_get (rdT RA cs s0 (i + 1)) (rdT RA cs s0 i) c (by omega) (by omega)).trans hse
          have hset := Lib.hid (mid_set (rdT RA cs s0 (i + 1)) (rdT RA cs s0 i) c (by omega) (by omega) _ hnew)
          obtain ⟨x1, x2⟩ := hO7.out.2.2 c se hmid
          rw [Nat.zero_add] at x1 x2
          have hF37 : Fr w3 wv := ((Fx.of_fr (hf4)).trans (hfx6.trans hfx7)).toFr (fun k hk e => by have e : k = g := e; omega)
          have hFrv := f3.trans hF37
          obtain ⟨cb, co, kc', rfl, -, hkc', hc3⟩ := (hc.out.fr hFrv).at (i := i) (by rw [hcl.out]; exact hi)
          obtain rfl : kc = kc' := by rw [hkc] at hkc'; injection hkc'
          have hel7 := hel6.out.fr hFrv
          obtain ⟨eb, eo, xe', hxa, hbe, hxe', hc4⟩ := hel7.at (i := c) (by omega)
          obtain rfl : xe = xe' := by rw [hxe] at hxe'; injection hxe'
          subst hxa
          have m0 := (f13.trans hF37).keep hS1.out.b
          have m1 := hfx7.keep hX6.out.b hxg
          have hG7 := hGf.out _ hFrv
          have ho1 := Lib.hid (fun W' (hW' : Fr wv W') => Of_any kc (by unfold Ti at q1; omega) (by unfold Ti at q1; omega) W' (hG7.fr hW'))
          have ho2 := Lib.hid (fun W' (hW' : Fr wv W') => Of_any xe (by unfold Ti at q3; omega) (by unfold Ti at q3; omega) W' (hG7.fr hW'))
          have hmu := Lib.hid (fun W' (hW' : Fr wv W') => Mul_ti kc xe q1 q3 W' (hG7.fr hW'))
          have had := Lib.hid (fun W' (hW' : Fr wv W') => Add_sm se (kc * xe) q2 sm W' (hG7.fr hW'))
          have u0 : (0 : Int) ≤ (c : Int) := Int.natCast_nonneg _
          have u1 : (c : Int) < (d : Int) := by omega
          have hS0 := Lib.hid (fun W' (hW' : Fr wv W') => (⟨hW'.keep m0, hW'.keep m1, hW'.keep hc3, hW'.keep hc4, hW'.keep x1⟩ : W'.cell? ⟨nb + 1, 1, none⟩ = some (.slice (some ⟨cb, co, none⟩) d cc) ∧ W'.cell? ⟨xb, 1, none⟩ = some (.slice (some ⟨eb, eo, none⟩) d xc) ∧ W'.cell? ⟨cb, co + i, none⟩ = some (.int .i64 kc) ∧ W'.cell? ⟨eb, eo + c, none⟩ = some (.int .i64 xe) ∧ W'.cell? ⟨g, c, none⟩ = some (sv se)))
          replace hkc := Lib.hid hkc
          replace hxe := Lib.hid hxe
          replace hse := Lib.hid hse
          replace hnew := Lib.hid hnew
          replace hmid := Lib.hid hmid
          replace hkc' := Lib.hid hkc'
          replace hxe' := Lib.hid hxe'
          replace hl1 := Lib.hid hl1
          replace hl2 := Lib.hid hl2
          clear hm2 q1 q2 q3 sm hel7
          go_wp2_with fail
          refine wp_region_U (S := fun W' => W'.cell? ⟨nb + 1, 1, none⟩ = some (.slice (some ⟨cb, co, none⟩) d cc) ∧ W'.cell? ⟨xb, 1, none⟩ = some (.slice (some ⟨eb, eo, none⟩) d xc) ∧ W'.cell? ⟨cb, co + i, none⟩ = some (.int .i64 kc) ∧ W'.cell? ⟨eb, eo + c, none⟩ = some (.int .i64 xe) ∧ W'.cell? ⟨g, c, none⟩ = some (sv se)) 21 (by kernel_rfl) (hS0.out _ ((Fr.refl _).drew)) (fun hHeld => ?_)
          refine wpAnyU_take (i := 0) (v := ?_) rfl (by kernel_rfl) (by decide) (by kernel_rfl) (by kernel_rfl) (by kernel_rfl) (by kernel_rfl) (fun _ _ _ h => h) (Or.inl ⟨by rfl, ?_⟩) (by assumption) ?_
          rotate_left
          · (intro w hSw; (try dsimp only at hSw); go_simp; try (with_reducible rfl))
          change wpAnyU _ _ _ _ _ _ _ _ (Act.put _ (some 46) _) _
          simp only [Act.put, List.setIfInBounds_toArray, List.set_cons_zero, List.set_cons_succ]
          refine wpAnyU_take (i := 1) (v := ?_) rfl (by kernel_rfl) (by decide) (by kernel_rfl) (by kernel_rfl) (by kernel_rfl) (by kernel_rfl) (fun _ _ _ h => h) (Or.inl ⟨by rfl, ?_⟩) (by assumption) ?_
          rotate_left
          · (intro w hSw; (try dsimp only at hSw); go_simp; try (with_reducible rfl))
          change wpAnyU _ _ _ _ _ _ _ _ (Act.put _ (some 47) _) _
          simp only [Act.put, List.setIfInBounds_toArray, List.set_cons_zero, List.set_cons_succ]
          refine wpAnyU_take (i := 2) (v := ?_) rfl (by kernel_rfl) (by decide) (by kernel_rfl) (by kernel_rfl) (by kernel_rfl) (by kernel_rfl) (fun _ _ _ h => h) (Or.inl ⟨by rfl, ?_⟩) (by assumption) ?_
          rotate_left
          · (intro w hSw; (try dsimp only at hSw); go_simp; try (with_reducible rfl))
          change wpAnyU _ _ _ _ _ _ _ _ (Act.put _ (some 48) _) _
          simp only [Act.put, List.setIfInBounds_toArray, List.set_cons_zero, List.set_cons_succ]
          refine wpAnyU_take (i := 3) (v := ?_) rfl (by kernel_rfl) (by decide) (by kernel_rfl) (by kernel_rfl) (by kernel_rfl) (by kernel_rfl) (fun _ _ _ h => h) (Or.inl ⟨by rfl, ?_⟩) (by assumption) ?_
          rotate_left
          · (intro w hSw; (try dsimp only at hSw); go_simp; try (with_reducible rfl))
          change wpAnyU _ _ _ _ _ _ _ _ (Act.put _ (some 49) _) _
          simp only [Act.put, List.setIfInBounds_toArray, List.set_cons_zero, List.set_cons_succ]
          refine wpAnyU_take (i := 4) (v := ?_) rfl (by kernel_rfl) (by decide) (by kernel_rfl) (by kernel_rfl) (by kernel_rfl) (by kernel_rfl) (fun _ _ _ h => h) (Or.inl ⟨by rfl, ?_⟩) (by assumption) ?_
          rotate_left
          · (intro w hSw; (try dsimp only at hSw); go_simp; try (with_reducible rfl))
          change wpAnyU _ _ _ _ _ _ _ _ (Act.put _ (some 50) _) _
          simp only [Act.put, List.setIfInBounds_toArray, List.set_cons_zero, List.set_cons_succ]
          refine wpAnyU_take (i := 5) (v := ?_) rfl (by kernel_rfl) (by decide) (by kernel_rfl) (by kernel_rfl) (by kernel_rfl) (by kernel_rfl) (fun _ _ _ h => h) (Or.inl ⟨by rfl, ?_⟩) (by assumption) ?_
          rotate_left
          · (intro w hSw; (try dsimp only at hSw); go_simp; try (with_reducible rfl))
          change wpAnyU _ _ _ _ _ _ _ _ (Act.put _ (some 51) _) _
          simp only [Act.put, List.setIfInBounds_toArray, List.set_cons_zero, List.set_cons_succ]
          refine wpAnyU_take (i := 6) (v := ?_) rfl (by kernel_rfl) (by decide) (by kernel_rfl) (by kernel_rfl) (by kernel_rfl) (by kernel_rfl) (fun _ _ _ h => h) (Or.inl ⟨by rfl, ?_⟩) (by assumption) ?_
          rotate_left
          · (intro w hSw; (try dsimp only at hSw); go_simp; try (with_reducible rfl))
          change wpAnyU _ _ _ _ _ _ _ _ (Act.put _ (some 52) _) _
          simp only [Act.put, List.setIfInBounds_toArray, List.set_cons_zero, List.set_cons_succ]
          refine wpAnyU_take (i := 7) (v := ?_) rfl (by kernel_rfl) (by decide) (by kernel_rfl) (by kernel_rfl) (by kernel_rfl) (by kernel_rfl) (fun _ _ _ h => h) (Or.inl ⟨by rfl, ?_⟩) (by assumption) ?_
          rotate_left
          · (intro w hSw; (try dsimp only at hSw); go_simp; try (with_reducible rfl))
          change wpAnyU _ _ _ _ _ _ _ _ (Act.put _ (some 53) _) _
          simp only [Act.put, List.setIfInBounds_toArray, List.set_cons_zero, List.set_cons_succ]
          refine wpAnyU_take (i := 8) (v := ?_) rfl (by kernel_rfl) (by decide) (by kernel_rfl) (by kernel_rfl) (by kernel_rfl) (by kernel_rfl) (fun _ _ _ h => h) (Or.inl ⟨by rfl, ?_⟩) (by assumption) ?_
          rotate_left
          · (intro w hSw; (try dsimp only at hSw); go_simp; try (with_reducible rfl))
          change wpAnyU _ _ _ _ _ _ _ _ (Act.put _ (some 54) _) _
          simp only [Act.put, List.setIfInBounds_toArray, List.set_cons_zero, List.set_cons_succ]
          refine wpAnyU_take (i := 9) (v := ?_) rfl (by kernel_rfl) (by decide) (by kernel_rfl) (by kernel_rfl) (by kernel_rfl) (by kernel_rfl) (fun _ _ _ h => h) (Or.inl ⟨by rfl, ?_⟩) (by assumption) ?_
          rotate_left
          · (intro w hSw; (try dsimp only at hSw); go_simp; try (with_reducible rfl))
          change wpAnyU _ _ _ _ _ _ _ _ (Act.put _ (some 55) _) _
          simp only [Act.put, List.setIfInBounds_toArray, List.set_cons_zero, List.set_cons_succ]
          refine wpAnyU_take (i := 10) (v := ?_) rfl (by kernel_rfl) (by decide) (by kernel_rfl) (by kernel_rfl) (by kernel_rfl) (by kernel_rfl) (fun _ _ _ h => h) (Or.inl ⟨by rfl, ?_⟩) (by assumption) ?_
          rotate_left
          · (intro w hSw; (try dsimp only at hSw); go_simp; try (with_reducible rfl))
          change wpAnyU _ _ _ _ _ _ _ _ (Act.put _ (some 56) _) _
          simp only [Act.put, List.setIfInBounds_toArray, List.set_cons_zero, List.set_cons_succ]
          refine wpAnyU_take (i := 12) (v := ?_) rfl (by kernel_rfl) (by decide) (by kernel_rfl) (by kernel_rfl) (by kernel_rfl) (by kernel_rfl) (fun _ _ _ h => h) (Or.inl ⟨by rfl, ?_⟩) (by assumption) ?_
          rotate_left
          · (intro w hSw; (try dsimp only at hSw); go_simp; try (with_reducible rfl))
          change wpAnyU _ _ _ _ _ _ _ _ (Act.put _ (some 58) _) _
          simp only [Act.put, List.setIfInBounds_toArray, List.set_cons_zero, List.set_cons_succ]
          refine wpAnyU_take (i := 13) (v := ?_) rfl (by kernel_rfl) (by decide) (by kernel_rfl) (by kernel_rfl) (by kernel_rfl) (by kernel_rfl) (fun _ _ _ h => h) (Or.inl ⟨by rfl, ?_⟩) (by assumption) ?_
          rotate_left
          · (intro w hSw; (try dsimp only at hSw); go_simp; try (with_reducible rfl))
          change wpAnyU _ _ _ _ _ _ _ _ (Act.put _ (some 59) _) _
          simp only [Act.put, List.setIfInBounds_toArray, List.set_cons_zero, List.set_cons_succ]
          refine wpAnyU_take (i := 14) (v := ?_) rfl (by kernel_rfl) (by decide) (by kernel_rfl) (by kernel_rfl) (by kernel_rfl) (by kernel_rfl) (fun _ _ _ h => h) (Or.inl ⟨by rfl, ?_⟩) (by assumption) ?_
          rotate_left
          · (intro w hSw; (try dsimp only at hSw); go_simp; try (with_reducible rfl))
          change wpAnyU _ _ _ _ _ _ _ _ (Act.put _ (some 60) _) _
          simp only [Act.put, List.setIfInBounds_toArray, List.set_cons_zero, List.set_cons_succ]
          refine wpAnyU_take (i := 15) (v := ?_) rfl (by kernel_rfl) (by decide) (by kernel_rfl) (by kernel_rfl) (by kernel_rfl) (by kernel_rfl) (fun _ _ _ h => h) (Or.inl ⟨by rfl, ?_⟩) (by assumption) ?_
          rotate_left
          · (intro w hSw; (try dsimp only at hSw); go_simp; try (with_reducible rfl))
          change wpAnyU _ _ _ _ _ _ _ _ (Act.put _ (some 61) _) _
          simp only [Act.put, List.setIfInBounds_toArray, List.set_cons_zero, List.set_cons_succ]
          refine wpAnyU_take (i := 16) (v := ?_) rfl (by kernel_rfl) (by decide) (by kernel_rfl) (by kernel_rfl) (by kernel_rfl) (by kernel_rfl) (fun _ _ _ h => h) (Or.inl ⟨by rfl, ?_⟩) (by assumption) ?_
          rotate_left
          · (intro w hSw; (try dsimp only at hSw); go_simp; try (with_reducible rfl))
          change wpAnyU _ _ _ _ _ _ _ _ (Act.put _ (some 62) _) _
          simp only [Act.put, List.setIfInBounds_toArray, List.set_cons_zero, List.set_cons_succ]
          refine wpAnyU_ready (rs := [11]) (by kernel_rfl) (by simp) ?_
          refine AllReadyU.cons rfl (fun K hK => ?_) AllReadyU.nil
          go_simp
          (refine (ho1.out _ (by repeat (with_reducible first | assumption | exact Fr.refl _ | refine Fr.drew ?_ | refine Fr.drewN ?_ _ | refine Fr.alloc ?_ _ | (refine Fr.setCell ?_ (by simp only [World.size_alloc, World.size_drew, World.size_setCell]; omega) _) | refine Fr.trans ?_ (by assumption)))).mono ?_; rintro e w10 ⟨rfl, hf10⟩)
          go_wp2_with fail
          refine hK.out _ _ (hS0.out _ (by repeat (with_reducible first | assumption | exact Fr.refl _ | refine Fr.drew ?_ | refine Fr.drewN ?_ _ | refine Fr.alloc ?_ _ | (refine Fr.setCell ?_ (by simp only [World.size_alloc, World.size_drew, World.size_setCell]; omega) _) | refine Fr.trans ?_ (by assumption)))) (fun hHeld => ?_)
          clear hK K
          try simp only [Act.put, List.setIfInBounds_toArray, List.set_cons_zero, List.set_cons_succ]
          refine wpAnyU_ready (rs := [17]) (by kernel_rfl) (by simp) ?_
          refine AllReadyU.cons rfl (fun K hK => ?_) AllReadyU.nil
          go_simp
          (refine (ho2.out _ (by repeat (with_reducible first | assumption | exact Fr.refl _ | refine Fr.drew ?_ | refine Fr.drewN ?_ _ | refine Fr.alloc ?_ _ | (refine Fr.setCell ?_ (by simp only [World.size_alloc, World.size_drew, World.size_setCell]; omega) _) | refine Fr.trans ?_ (by assumption)))).mono ?_; rintro e w11 ⟨rfl, hf11⟩)
          go_wp2_with fail
          refine hK.out _ _ (hS0.out _ (by repeat (with_reducible first | assumption | exact Fr.refl _ | refine Fr.drew ?_ | refine Fr.drewN ?_ _ | refine Fr.alloc ?_ _ | (refine Fr.setCell ?_ (by simp only [World.size_alloc, World.size_drew, World.size_setCell]; omega) _) | refine Fr.trans ?_ (by assumption)))) (fun hHeld => ?_)
          clear hK K
          try simp only [Act.put, List.setIfInBounds_toArray, List.set_cons_zero, List.set_cons_succ]
          refine wpAnyU_ready (rs := [18]) (by kernel_rfl) (by simp) ?_
          refine AllReadyU.cons rfl (fun K hK => ?_) AllReadyU.nil
          go_simp
          (refine (hmu.out _ (by repeat (with_reducible first | assumption | exact Fr.refl _ | refine Fr.drew ?_ | refine Fr.drewN ?_ _ | refine Fr.alloc ?_ _ | (refine Fr.setCell ?_ (by simp only [World.size_alloc, World.size_drew, World.size_setCell]; omega) _) | refine Fr.trans ?_ (by assumption)))).mono ?_; rintro e w12 ⟨rfl, hf12⟩)
          go_wp2_with fail
          refine hK.out _ _ (hS0.out _ (by repeat (with_reducible first | assumption | exact Fr.refl _ | refine Fr.drew ?_ | refine Fr.drewN ?_ _ | refine Fr.alloc ?_ _ | (refine Fr.setCell ?_ (by simp only [World.size_alloc, World.size_drew, World.size_setCell]; omega) _) | refine Fr.trans ?_ (by assumption)))) (fun hHeld => ?_)
          clear hK K
          try simp only [Act.put, List.setIfInBounds_toArray, List.set_cons_zero, List.set_cons_succ]
          refine wpAnyU_ready (rs := [19]) (by kernel_rfl) (by simp) ?_
          refine AllReadyU.cons rfl (fun K hK => ?_) AllReadyU.nil
          go_simp
          (refine (had.out _ (by repeat (with_reducible first | assumption | exact Fr.refl _ | refine Fr.drew ?_ | refine Fr.drewN ?_ _ | refine Fr.alloc ?_ _ | (refine Fr.setCell ?_ (by simp only [World.size_alloc, World.size_drew, World.size_setCell]; omega) _) | refine Fr.trans ?_ (by assumption)))).mono ?_; rintro e w13 ⟨rfl, hf13⟩)
          go_wp2_with fail
          refine hK.out _ _ (hS0.out _ (by repeat (with_reducible first | assumption | exact Fr.refl _ | refine Fr.drew ?_ | refine Fr.drewN ?_ _ | refine Fr.alloc ?_ _ | (refine Fr.setCell ?_ (by simp only [World.size_alloc, World.size_drew, World.size_setCell]; omega) _) | refine Fr.trans ?_ (by assumption)))) (fun hHeld => ?_)
          clear hK K
          try simp only [Act.put, List.setIfInBounds_toArray, List.set_cons_zero, List.set_cons_succ]
          have hfr8 : Fr wv w13 := ((((Fr.refl wv).drew.trans hf10).trans hf11).trans hf12).trans hf13
          refine wpAnyU_take (i := 20) (v := ?_) rfl (by kernel_rfl) (by decide) (by kernel_rfl) (by kernel_rfl) (by kernel_rfl) (by kernel_rfl) (fun _ _ _ h => h) (Or.inl ⟨by rfl, ?_⟩) (by assumption) ?_
          rotate_left
          · (intro w hSw; (try dsimp only at hSw); go_simp; try (with_reducible rfl))
          change wpAnyU _ _ _ _ _ _ _ _ (Act.put _ (some 66) _) _
          simp only [Act.put, List.setIfInBounds_toArray, List.set_cons_zero, List.set_cons_succ]
          have z1 := hfr8.keep x1
          have z2 := hfr8.keepf x1 x2
          clear hHeld
          refine wpAnyU_ready (rs := [21]) (by kernel_rfl) (by simp) ?_
          refine AllReadyU.last rfl (by kernel_rfl) (by kernel_rfl) (fun K hK => ?_)
          go_simp
          refine hK.out _ _ ?_
          clear hK K
          have hown8 := (hO7.out.fr hfr8).set (k := c) (by rw [List.length_append, List.length_take, List.length_drop, hl1.out, hl2.out]; omega) (se + kc * xe)
          rw [hset.out, Nat.zero_add] at hown8
          have hf8x := (hfx7.fr hfr8).setCell (q := ⟨g, c, none⟩) (.inl rfl) (sv (se + kc * xe))
          replace hown8 := Lib.hid hown8
          clear z1 z2
          go_wp2_with fail
          go_roundg (kv - 1)
          case measure => omega
          case rel => exact ⟨c + 1, by go_num, by omega, hf8x, hown8.out⟩
        · have hdC : decide (c < d) = false := decide_eq_false hcd
          obtain rfl : d = c := by omega
          have hO8 := hO7.out
          rw [List.take_of_length_le (by omega), List.drop_of_length_le (by omega), List.append_nil] at hO8
          replace hO8 := Lib.hid hO8
          go_wp2_with fail
          go_roundg (ko - 1)
          case measure => omega
          case rel => exact ⟨i + 1, by go_num, by omega, hfx6.trans hfx7, hO8.out⟩
    · have hdI : decide (i < d) = false := decide_eq_false hi
      obtain rfl : d = i := by omega
      have hb2 := hbk.out _ hFr g gc hO.out.el
      rw [hlen.out d (Nat.le_refl _)] at hb2
      replace hb2 := Lib.hid hb2
      go_wp2_with fail
      refine hb2.out.mono ?_
      rintro e wD ⟨vD, rfl, hownD, -, hfD⟩
      rw [hlen.out d (Nat.le_refl _)] at hownD
      obtain ⟨gD, cD, rfl, -⟩ := World.ownsRow.form hownD (by omega)
      have helD := Lib.hid (el_of_owns hownD)
      clear hownD
      go_wp2_with fail
      go_ret2
      exact ⟨gD, cD, rfl, helD.out, hlen.out d (Nat.le_refl _), hFr.trans hfD⟩
end Go.Proofs.YtamffndlpminmaaGreatDoor
