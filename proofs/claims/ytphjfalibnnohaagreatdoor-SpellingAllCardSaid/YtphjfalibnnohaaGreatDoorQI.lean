/-
  Contracts and laws for the statements of the law 43 of the seat, QI.
-/
import Derived.Test.YtphjfalibnnohaaGreatDoorQE
import Derived.Test.YtphjfalibnnohaaGreatDoorQF
import Derived.OrdersHeld
import Derived.Deep.RegionHeld3
import Derived.StillTail

/- schismalaw43.errorOf, bound, small, complexity, ints, great. -/
namespace Go.Proofs.YtphjfalibnnohaaGreatDoor
open Go.RowKit Go.Lib
attribute [local go_sem ↓] Go.wp_at_zero Go.wp_at_succ

theorem errorOf_any (aN aA : Option Addr) (cN cA : Nat) (N A : List Sy) (i : Int) (cs : List Int) (ca : Option Addr) (cc : Nat) (w : World) (hcs : El w iv ca cs) (hl : cs.length ≤ 1000000000) (_hN : N.length ≤ 1000000000) (_hA : A.length ≤ 1000000000) :
    Calls Tryz.prog 19 #[.agg #[.slice aN N.length cN, .slice aA A.length cA], .agg #[.int .i64 i, .slice ca cs.length cc]] w fun e w' => e = .returned (.int .i64 (spE N A i cs)) ∧ Fr w w' := by
  have hck := fun W (hW : Fr w W) => Check_row cs ca cc W (hcs.fr hW) hl
  replace hck := Lib.hid hck
  clear hcs
  have hf2 : Fr w ((w.alloc (.cells #[.slice aN N.length cN, .slice aA A.length cA] 30)).alloc (.cells #[.int .i64 i, .slice ca cs.length cc] 42)) := ((Fr.refl w).alloc _).alloc _
  replace hf2 := Lib.hid hf2
  by_cases h1 : i < 0
  · have hfin := Lib.hid (show spE N A i cs = 10 by unfold spE; rw [if_pos (.inl h1)])
    have d1 : decide (i < 0) = true := decide_eq_true h1
    go_enter Tryz.func19, Tryz.ntmps19
    go_wp2_with fail
    go_ret
    exact ⟨ret_int hfin.out.symm, hf2.out⟩
  · by_cases h2 : (N.length : Int) ≤ i
    · have hfin := Lib.hid (show spE N A i cs = 10 by unfold spE; rw [if_pos (.inr h2)])
      have d1 : decide (i < 0) = false := decide_eq_false h1
      have d2 : decide ((N.length : Int) ≤ i) = true := decide_eq_true h2
      go_enter Tryz.func19, Tryz.ntmps19
      go_wp2_with fail
      go_ret
      exact ⟨ret_int hfin.out.symm, hf2.out⟩
    · have d1 : decide (i < 0) = false := decide_eq_false h1
      have d2 : decide ((N.length : Int) ≤ i) = false := decide_eq_false h2
      by_cases h3 : cs.length = A.length
      · have hfin := Lib.hid (show spE N A i cs = rowE cs by unfold spE; rw [if_neg (by omega), if_neg (by rw [h3]; simp)])
        have q3 : ((cs.length : Int) != A.length) = false := by rw [h3]; simp
        replace h3 := Lib.hid h3
        go_enter Tryz.func19, Tryz.ntmps19
        go_wp2_with fail
        refine (hck.out _ hf2.out).mono ?_
        rintro e w3 ⟨rfl, hf3⟩
        go_wp2_with fail
        go_ret
        exact ⟨ret_int hfin.out.symm, hf2.out.trans hf3⟩
      · have hfin := Lib.hid (show spE N A i cs = 5 by unfold spE; rw [if_neg (by omega), if_pos h3])
        have q3 : ((cs.length : Int) != A.length) = true := by rw [bne_iff_ne]; omega
        replace h3 := Lib.hid h3
        go_enter Tryz.func19, Tryz.ntmps19
        go_wp2_with fail
        go_ret
        exact ⟨ret_int hfin.out.symm, hf2.out⟩

theorem boundR_any (aN aA : Option Addr) (cN cA n a : Nat) (most : Int) (w : World) (hn : n ≤ 20000) (ha : a ≤ 1000000) :
    Calls Tryz.prog 20 #[.agg #[.slice aN n cN, .slice aA a cA], .int .i64 most] w fun e w' => e = .returned (.int .i64 (boundE n a most)) ∧ Fr w w' := by
  have hf2 : Fr w (w.alloc (.cells #[.slice aN n cN, .slice aA a cA] 30)) := (Fr.refl w).alloc _
  replace hf2 := Lib.hid hf2
  by_cases h0 : most < 0
  · have hfin := Lib.hid (show boundE n a most = 3 by unfold boundE; rw [if_pos h0])
    go_enter Tryz.func20, Tryz.ntmps20
    go_wp2_with fail
    go_ret
    exact ⟨ret_int hfin.out.symm, hf2.out⟩
  · have hfin := Lib.hid (show boundE n a most = bdE n most a by unfold boundE; rw [if_neg h0])
    have d0 : decide (most < 0) = false := decide_eq_false h0
    have h0' : 0 ≤ most := by omega
    clear h0
    go_enter Tryz.func20, Tryz.ntmps20
    go_wp2_with fail
    go_loopg [5, 14] a (fun k s5 s14 wr => ∃ (j : Nat) (tot : Int), s14 = .int .i64 j ∧ j + k = a ∧ s5 = .int .i64 tot ∧ 0 ≤ tot ∧ tot ≤ 20000 ∧ Hid (bdE n most a = bdE tot most k) ∧ wr = w.alloc (.cells #[.slice aN n cN, .slice aA a cA] 30))
    case atStart => exact ⟨0, n, rfl, by omega, rfl, by omega, by omega, rfl, rfl⟩
    case round =>
      obtain ⟨j, tot, rfl, hjk, rfl, ht0, ht1, he, rfl⟩ := hrel
      by_cases hj : j < a
      · have hdJ : decide (j < a) = true := decide_eq_true hj
        obtain ⟨k1, rfl⟩ : ∃ k1, gk = k1 + 1 := ⟨gk - 1, by omega⟩
        by_cases hm : 20000 < most
        · have dm : decide (20000 < most) = true := decide_eq_true hm
          have hf := Lib.hid (show bdE n most a = 4 by rw [he.out, bdE, if_pos hm])
          clear he
          go_wp2_with fail
          go_ret
          exact ⟨ret_int (by rw [hfin.out, hf.out]), hf2.out⟩
        · have dm : decide (20000 < most) = false := decide_eq_false hm
          have hm' : most ≤ 20000 := by omega
          have hp0 : 0 ≤ tot * (2 * most + 1) := Int.mul_nonneg ht0 (by omega)
          have hp1 : tot * (2 * most + 1) ≤ 20000 * 40001 := Int.mul_le_mul ht1 (by omega) (by omega) (by omega)
          have he2 := Lib.hid (show bdE n most a = if 20000 < tot * (2 * most + 1) then 4 else bdE (tot * (2 * most + 1)) most k1 by rw [he.out, bdE, if_neg hm])
          clear he hm
          by_cases hq : 20000 < tot * (2 * most + 1)
          · have dq : decide (20000 < tot * (2 * most + 1)) = true := decide_eq_true hq
            have hf := Lib.hid (show bdE n most a = 4 by rw [he2.out, if_pos hq])
            clear he2
            go_wp2_with fail
            go_ret
            exact ⟨ret_int (by rw [hfin.out, hf.out]), hf2.out⟩
          · have dq : decide (20000 < tot * (2 * most + 1)) = false := decide_eq_false hq
            have hf := Lib.hid (show bdE n most a = bdE (tot * (2 * most + 1)) most k1 by rw [he2.out, if_neg hq])
            clear he2
            go_wp2_with fail
            go_roundg k1
            case measure => omega
            case rel => exact ⟨j + 1, _, by go_num, by omega, rfl, hp0, by omega, hf, rfl⟩
      · obtain rfl : j = a := by omega
        have hdJ : decide (j < j) = false := decide_eq_false (by omega)
        obtain rfl : gk = 0 := by omega
        have hf := Lib.hid (show bdE n most j = 0 by rw [he.out, bdE])
        clear he
        go_wp2_with fail
        go_ret
        exact ⟨ret_int (by rw [hfin.out, hf.out]), hf2.out⟩

theorem cxR_any (cs : List Int) (a : Option Addr) (cap : Nat) (w : World) (hx : El w iv a cs) (hl : cs.length ≤ 64) (hb : ∀ x, x ∈ cs → fitB x = true) :
    Calls Tryz.prog 31 #[.slice a cs.length cap] w fun e w' => e = .returned (.int .i64 (cx cs)) ∧ Gd w w' := by
  obtain ⟨n, hn⟩ : ∃ n, n = cs.length := ⟨_, rfl⟩
  rw [← hn] at hl
  replace hn := Lib.hid hn
  rw [← hn.out]
  replace hx := Lib.hid hx
  replace hb := Lib.hid hb
  go_enter Tryz.func31, Tryz.ntmps31
  go_wp2_with fail
  go_loopg [3, 8] n (fun k s3 s9 wr => ∃ j : Nat, s9 = .int .i64 j ∧ j + k = n ∧ s3 = .int .i64 (cx (cs.take j)) ∧ Gd w wr)
  case atStart => exact ⟨0, rfl, by omega, rfl, Gd.refl w⟩
  case round =>
    obtain ⟨j, rfl, hjk, rfl, hf⟩ := hrel
    by_cases hj : j < n
    · obtain ⟨b, o, x, rfl, hbl, hxj, hc⟩ := (hx.out.fr hf.fr).at (i := j) (by rw [← hn.out]; exact hj)
      have hd : decide (j < n) = true := decide_eq_true hj
      have hs := Lib.hid (cx_take hxj)
      have hbd := cx_bound (l := cs.take j) (fun y hy => hb.out y (List.mem_of_mem_take hy))
      have hfx := hb.out x (List.mem_of_getElem? hxj)
      unfold fitB at hfx
      have hfx := of_decide_eq_true hfx
      have hll : (cs.take j).length = j := by rw [List.length_take, ← hn.out]; omega
      rw [hll] at hbd
      obtain ⟨t, ht⟩ : ∃ t, t = cx (cs.take j) := ⟨_, rfl⟩
      rw [← ht] at hbd hs ⊢
      have hw : -1000000000 ≤ x ∧ x ≤ 1000000000 := by omega
      clear hxj hll
      go_wp2_with fail
      go_roundg (gk - 1)
      case measure => omega
      case rel =>
        refine ⟨j + 1, by go_num, by omega, ?_, hf⟩
        rw [hs.out, ht]; congr 1; omega
    · obtain rfl : j = n := by omega
      have hd : decide (j < j) = false := decide_eq_false hj
      go_wp2_with fail
      go_ret
      refine ⟨?_, hf⟩
      show Ending.returned (.int .i64 (cx (cs.take j))) = _
      rw [List.take_of_length_le (by rw [← hn.out]; exact Nat.le_refl _)]

/-- a slice of texts of the call's own, read -/
theorem own_readS {w : World} {base : Nat} {v : Value} {l : List Int} (h : w.ownsRow base 65 1 v l.length (l.map sv)) : ∃ a c, v = .slice a l.length c ∧ El w sv a l ∧ l.length ≤ c ∧ ∀ ad, a = some ad → base ≤ ad.block := by
  rcases h.2 with ⟨h1, h2⟩ | ⟨g, cap, cur, hv, _⟩
  · have := List.eq_nil_of_length_eq_zero h2
    subst this
    exact ⟨none, 0, h1, .inl rfl, Nat.le_refl _, fun ad e => by cases e⟩
  · subst hv
    obtain ⟨-, h1, h2, h3, h4⟩ := ownsRow_some h
    refine ⟨_, _, rfl, .inr ⟨g, 0, rfl, h2, fun i x hx => ?_⟩, h3, fun ad e => by injection e with e; subst e; exact h1⟩
    rw [Nat.zero_add]
    exact (h4 i (sv x) (by rw [List.getElem?_map, hx]; rfl)).1
def IntsRet (w : World) (xs : List Int) (e : Ending) (w' : World) : Prop := ∃ a c, e = .returned (.slice a xs.length c) ∧ El w' sv a xs ∧ xs.length ≤ c ∧ Fr w w'
set_option maxRecDepth 100000 in
set_option maxHeartbeats 1000000 in
theorem ints_any (xs : List Int) (a : Option Addr) (cap : Nat) (w : World) (hG : G w) (hx : El w iv a xs) (hl : xs.length ≤ 1000000) (hb : ∀ x, x ∈ xs → -9223372036854775808 ≤ x ∧ x ≤ 9223372036854775807) :
    Calls Tryz.prog 27 #[.slice a xs.length cap] w (IntsRet w xs) := by
  obtain ⟨i0, hi, hz0, hz1, hz2⟩ := info_parts info65
  obtain ⟨n, hn⟩ : ∃ n, n = xs.length := ⟨_, rfl⟩
  rw [← hn] at hl
  rw [← hn]
  have hint := fun (W : World) (x : Int) (hW : Fr w W) (hx : x ∈ xs) => IntR_any x (hb x hx).1 (hb x hx).2 W (hG.fr hW)
  replace hint := Lib.hid hint
  replace hn := Lib.hid hn
  replace hx := Lib.hid hx
  clear hb
  go_enter Tryz.func27, Tryz.ntmps27
  go_wp2_with fail
  go_loopg [3, 8] n (fun gk s3 s8 wr => ∃ j : Nat, s8 = .int .i64 j ∧ j + gk = n ∧ Fr w wr ∧ Hid (wr.ownsRow w.heap.size 65 1 s3 j ((xs.take j).map sv)))
  case atStart => exact ⟨0, rfl, by omega, Fr.refl _, World.ownsRow_nil _ _ _ _⟩
  case round =>
    obtain ⟨j, rfl, hjk, hf, hown⟩ := hrel
    by_cases hj : j < n
    · obtain ⟨b, o, x, rfl, hbl, hxj, hc⟩ := (hx.out.fr hf).at (i := j) (by rw [← hn.out]; exact hj)
      have hd : decide (j < n) = true := decide_eq_true hj
      have hs := Lib.hid (take_snoc hxj)
      have hi9 := Lib.hid (hint.out wr x hf (List.mem_of_getElem? hxj))
      replace hxj := Lib.hid hxj
      go_wp2_with fail
      refine hi9.out.mono ?_
      rintro e w2 ⟨rfl, hf2⟩
      go_wp2_with (at_builtin; refine wpList_append_lies _ rfl _ _ 56 (by rfl) _ 65 _ _ 1 16 Tryz.underlying56 hi hz0 hz1 hz2 rfl (by decide) _ j _ (by rfl) (World.ownsRow.alloc (ownsRow_fr hown.out hf2) _) ⟨w2.heap.size, 0, none⟩ 1 1 [sv x] (by rfl) rfl (cell_one_newN _ _ _ _ (by simp)) (by simp [Value.oneCell']) (by decide) (by unfold maxLen; omega) (by omega) (by have := (hf.trans hf2).size; simp; omega) (w2.heap.size + 1) (by simp) ?_; intro gA capA wA hownA hgrowA hatA hltA)
      go_wp2_with fail
      go_roundg (gk - 1)
      case measure => omega
      case rel => exact ⟨j + 1, by go_num, by omega, ((hf.trans hf2).alloc _).grown hgrowA (fun k e => (hown.out.lt k e).1), by show _; rw [hs.out, List.map_append]; exact hownA⟩
    · obtain rfl : j = n := by omega
      have hd : decide (j < j) = false := decide_eq_false hj
      have hown9 := hown.out
      rw [List.take_of_length_le (by rw [← hn.out]; exact Nat.le_refl _), hn.out] at hown9
      obtain ⟨a9, c9, rfl, he9, hc9, -⟩ := own_readS hown9
      clear hown9
      go_wp2_with fail
      go_ret
      exact ⟨a9, c9, rfl, he9, hc9, hf⟩

def greatB (z : Int) : Bool := decide (1000000000 < z.natAbs)
set_option maxRecDepth 100000 in
set_option maxHeartbeats 1000000 in
theorem great1_any (z : Int) (w : World) (hG : G w) (hz : (digs z.natAbs).length ≤ 300000) (hz2 : (tx z).size ≤ 1000000) (hz3 : (digs (z.natAbs + 1000000000)).length ≤ 1000000) :
    Calls Tryz.prog 63 #[.string (tx z)] w fun e w' => e = .returned (.bool (greatB z)) ∧ Fr w w' := by
  have hto := Lib.hid (To_any z w hz2)
  have hof := Lib.hid (fun W (hW : Fr w W) => OfR_any 1000000000 (by omega) (by omega) W (hG.fr hW))
  go_enter Tryz.func63, Tryz.ntmps63
  go_wp2_with fail
  refine hto.out.mono ?_
  rintro e w1 ⟨r, rfl, ⟨a, c, rfl, he, hc⟩, hf1⟩
  go_upto_region 3 with (fail)
  have hab : WI w1 (z.natAbs : Int) (.agg #[.bool false, .slice a (digs z.natAbs).length c]) := ⟨a, c, by rw [decide_eq_false (show ¬ ((z.natAbs : Nat) : Int) < 0 by omega)]; rfl, he, hc⟩
  obtain ⟨r0, hr0, hr1⟩ : ∃ r0 : Int, r0 = (if (z.natAbs : Int) - 1000000000 = 0 then (0 : Int) else if (z.natAbs : Int) - 1000000000 < 0 then -1 else 1) ∧ decide (0 < r0) = greatB z := by
    refine ⟨_, rfl, ?_⟩
    unfold greatB
    split
    · rw [decide_eq_false (by omega), decide_eq_false (by omega)]
    · split
      · rw [decide_eq_false (by omega), decide_eq_false (by omega)]
      · rw [decide_eq_true (by omega), decide_eq_true (by omega)]
  have hcmp := fun W u (hW : Fr w1 W) (hu : WI W 1000000000 u) => CompareW_any (z.natAbs : Int) 1000000000 _ u W (hab.fr hW) hu (by show (digs z.natAbs).length ≤ _; omega) (by have := digs_len 2 1000000000 (by decide); exact Nat.le_trans this (by omega)) (by show (digs (z.natAbs + 1000000000)).length ≤ _; exact hz3)
  rw [← hr0] at hcmp
  replace hcmp := Lib.hid hcmp
  replace hr1 := Lib.hid hr1
  clear hr0
  have n1 : w1.heap.size < w1.heap.size + 1 := by omega
  obtain ⟨w2, hw2⟩ : ∃ w2, w2 = w1.alloc (Obj.cells #[Value.bool false, Value.slice a (digs z.natAbs).length c] 95) := ⟨_, rfl⟩
  have hf2 : Fr w1 w2 := by rw [hw2]; exact (Fr.refl _).alloc _
  have hf12 := hf1.trans hf2
  have b0 : w2.cell? ⟨w1.heap.size, 0, none⟩ = some (.bool false) := by rw [hw2]; exact (new2a _ _ _ _).1
  have b1 : w2.cell? ⟨w1.heap.size, 1, none⟩ = some (.slice a (digs z.natAbs).length c) := by rw [hw2]; exact (new2b _ _ _ _).1
  rw [← hw2]
  clear hw2
  clear hz hz2 hz3 he hc hab
  generalize (digs z.natAbs).length = nz at *
  go_region_held3 (fun w' => w'.cell? ⟨w1.heap.size, 0, none⟩ = some (.bool false) ∧ w'.cell? ⟨w1.heap.size, 1, none⟩ = some (.slice a nz c))
    (first | go_keep | (go_split_ands; refine ⟨?_, ?_⟩ <;> (refine Fr.keep (by assumption) ?_; assumption)))
    (first
      | (go_at_call 52; (with_reducible refine (hof.out _ ?_).mono ?_); (repeat (with_reducible first | assumption | exact Fr.refl _ | refine Fr.drew ?_ | refine Fr.drewN ?_ _ | refine Fr.alloc ?_ _ | (refine Fr.setCell ?_ (by simp only [World.size_alloc, World.size_drew, World.size_setCell]; omega) _) | refine Fr.trans ?_ (by assumption))); rintro e w3 ⟨r3, rfl, hr3, hf3⟩; replace hr3 := Lib.hid hr3)
      | (go_at_call 65; have hz3 : Fr w1 w3 := (by repeat (with_reducible first | assumption | exact Fr.refl _ | refine Fr.drew ?_ | refine Fr.drewN ?_ _ | refine Fr.alloc ?_ _ | (refine Fr.setCell ?_ (by simp only [World.size_alloc, World.size_drew, World.size_setCell]; omega) _) | refine Fr.trans ?_ (by assumption))); (with_reducible refine (hcmp.out _ _ hz3 hr3.out).mono ?_); rintro e w4 ⟨rfl, hf4⟩))
  all_goals
    have hfin : Fr w w4 := hf1.trans (hz3.trans hf4)
    go_wp2_with fail
    go_ret
    exact ⟨ret_bool hr1.out, hfin⟩
theorem ContainsFunc_txs (xs : List Int) (a : Option Addr) (cap : Nat) (g : Nat) (lb : Array Value) (p : Int → Bool) (w : World)
    (eg : ∀ args w, (callFunc g args).run Tryz.prog w = .ok (.enter g args) w) (hx : El w sv a xs) (hl : xs.length ≤ 1000000000) (hp : Pred w g lb sv p xs) :
    Calls Tryz.prog 62 #[.slice a xs.length cap, .func (.func g) #[] lb] w fun e w' => e = .returned (.bool (xs.any p)) ∧ Fr w w' := by
  rw [← idx_any]
  have hc := IndexFunc_txs xs a cap g lb p w eg hx hl hp
  clear hp
  go_enter Tryz.func62, Tryz.ntmps62
  go_wp2_with fail
  refine hc.mono ?_
  rintro e w' ⟨rfl, hf⟩
  go_wp2_with fail
  go_ret
  exact ⟨rfl, hf⟩
/-- numbers of no more than some 40 digits -/
def Md (z : Int) : Prop := z.natAbs < 10000000000000000000000000000000000000000
theorem Md.digs {z : Int} (h : Md z) : (digs z.natAbs).length ≤ 5 := digs_len 5 _ (by unfold Md at h; omega)
theorem Md.size {z : Int} (h : Md z) : (tx z).size ≤ 41 := tx_size_le 40 z (by omega) (by unfold Md at h; omega)
theorem greatL_any (xs : List Int) (a : Option Addr) (cap : Nat) (w : World) (hG : G w) (hx : El w sv a xs) (hl : xs.length ≤ 1000000) (hm : ∀ x, x ∈ xs → Md x) :
    Calls Tryz.prog 32 #[.slice a xs.length cap] w fun e w' => e = .returned (.bool (xs.any greatB)) ∧ Fr w w' := by
  have hp : Pred w 63 #[] sv greatB xs := fun x W hxm hW => by
    have h := hm x hxm
    have h1 := h.digs
    have h2 := h.size
    exact great1_any x W (hG.fr hW) (by omega) (by omega) (by have := digs_len 5 (x.natAbs + 1000000000) (by unfold Md at h; omega); omega)
  have eg : ∀ args w, (callFunc 63 args).run Tryz.prog w = .ok (.enter 63 args) w := enters_of Tryz.func63 (by kernel_rfl) rfl
  have hc := ContainsFunc_txs xs a cap 63 #[] greatB w eg hx (by omega) hp
  clear hp eg hm
  replace hc := Lib.hid hc
  go_enter Tryz.func32, Tryz.ntmps32
  go_wp2_with fail
  refine hc.out.mono ?_
  rintro e w' ⟨rfl, hf⟩
  go_wp2_with fail
  go_ret
  exact ⟨rfl, hf⟩

/-! ### small -/
def smSize (n : Nat) (most : Int) : Nat → Int
  | 0 => n
  | a + 1 => smSize n most a * (2 * max most 0 + 1)
def smallB (n a : Nat) (most : Int) : Bool := if 10 < most then !decide (boundE n a most = 0) else (decide (smSize n most a ≤ 400) || !decide (boundE n a most = 0))
theorem smSize_bd {n : Nat} {most : Int} (hn : n ≤ 4) (hm : most ≤ 10) : ∀ a, a ≤ 4 → 0 ≤ smSize n most a ∧ smSize n most a ≤ 4 * 21 ^ a := fun a => by
  induction a with
  | zero => intro _; show 0 ≤ (n : Int) ∧ (n : Int) ≤ 4 * 1; omega
  | succ a ih =>
    intro h
    obtain ⟨h1, h2⟩ := ih (by omega)
    show 0 ≤ smSize n most a * (2 * max most 0 + 1) ∧ smSize n most a * (2 * max most 0 + 1) ≤ 4 * 21 ^ (a + 1)
    have h3 : 0 ≤ 2 * max most 0 + 1 := by omega
    have h4 : 2 * max most 0 + 1 ≤ 21 := by omega
    refine ⟨Int.mul_nonneg h1 h3, ?_⟩
    rw [Int.pow_succ, ← Int.mul_assoc]
    exact Int.mul_le_mul h2 h4 h3 (by have : (0 : Int) ≤ 21 ^ a := Int.pow_nonneg (by omega); omega)
theorem ne_bool (x : Int) : (x != 0) = !decide (x = 0) := by
  by_cases h : x = 0
  · subst h; rfl
  · rw [decide_eq_false h]; exact bne_iff_ne.2 h
set_option maxRecDepth 100000 in
set_option maxHeartbeats 1000000 in
theorem small_law (aN aA : Option Addr) (cN cA n a : Nat) (most : Int) (w : World) (hn : n ≤ 4) (ha : a ≤ 3) :
    Calls Tryz.prog 17 #[.agg #[.slice aN n cN, .slice aA a cA], .int .i64 most] w fun e w' => e = .returned (.bool (smallB n a most)) ∧ Fr w w' := by
  have hbd := fun W => boundR_any aN aA cN cA n a most W (by omega) (by omega)
  obtain ⟨bE, hbE⟩ : ∃ bE, bE = boundE n a most := ⟨_, rfl⟩
  rw [← hbE] at hbd
  replace hbd := Lib.hid hbd
  by_cases h10 : 10 < most
  · have d1 : decide (10 < most) = true := decide_eq_true h10
    have hfin := Lib.hid (show smallB n a most = (bE != 0) by unfold smallB; rw [if_pos h10, hbE, ne_bool])
    clear hbE
    clear h10
    go_enter Tryz.func17, Tryz.ntmps17
    go_wp2_with fail
    refine (hbd.out _).mono ?_
    rintro e w1 ⟨rfl, hf1⟩
    have hfw : Fr w w1 := ((Fr.refl w).alloc _).trans hf1
    clear hf1
    go_wp2_with fail
    go_ret
    exact ⟨ret_bool hfin.out.symm, hfw⟩
  · have d1 : decide (10 < most) = false := decide_eq_false h10
    have hsz := fun j hj => smSize_bd (n := n) (most := most) hn (by omega) j hj
    replace hsz := Lib.hid hsz
    have hfin := Lib.hid (show smallB n a most = (decide (smSize n most a ≤ 400) || (bE != 0)) by unfold smallB; rw [if_neg h10, hbE, ne_bool])
    clear hbE
    have hm10 : most ≤ 10 := by omega
    clear h10
    obtain ⟨mx, hmx⟩ : ∃ mx, mx = max most 0 := ⟨_, rfl⟩
    have hmx0 : 0 ≤ mx := by omega
    have hmx1 : mx ≤ 10 := by omega
    go_enter Tryz.func17, Tryz.ntmps17
    go_wp2_with fail
    go_loopg [5, 18] a (fun k s5 s18 wr => ∃ (j : Nat) (tot : Int), s18 = .int .i64 j ∧ j + k = a ∧ s5 = .int .i64 tot ∧ Hid (tot = smSize n most j) ∧ wr = w.alloc (.cells #[.slice aN n cN, .slice aA a cA] 30))
    case atStart => exact ⟨0, n, rfl, by omega, rfl, rfl, rfl⟩
    case round =>
      obtain ⟨j, tot, rfl, hjk, rfl, he, rfl⟩ := hrel
      have hb := hsz.out j (by omega)
      rw [← he.out] at hb
      obtain ⟨hb0, hb1⟩ := hb
      have hb2 : tot ≤ 37044 := by
        rcases (show j = 0 ∨ j = 1 ∨ j = 2 ∨ j = 3 by omega) with rfl | rfl | rfl | rfl <;> omega
      clear hb1
      by_cases hj : j < a
      · have hdJ : decide (j < a) = true := decide_eq_true hj
        have p0 : 0 ≤ tot * (2 * mx + 1) := Int.mul_nonneg hb0 (by omega)
        have p1 : tot * (2 * mx + 1) ≤ 37044 * 21 := Int.mul_le_mul hb2 (by omega) (by omega) (by omega)
        have he2 := Lib.hid (show tot * (2 * mx + 1) = smSize n most (j + 1) by rw [hmx, he.out]; rfl)
        have hmx' := hmx.symm
        replace hmx := Lib.hid hmx
        go_wp2_with fail
        go_roundg (gk - 1)
        case measure => omega
        case rel => exact ⟨j + 1, _, by go_num, by omega, rfl, he2, rfl⟩
      · obtain rfl : j = a := by omega
        have hdJ : decide (j < j) = false := decide_eq_false (by omega)
        replace hmx := Lib.hid hmx
        by_cases h4 : tot ≤ 400
        · have d4 : decide (tot ≤ 400) = true := decide_eq_true h4
          have hf9 := Lib.hid (show smallB n j most = true by rw [hfin.out, ← he.out, decide_eq_true h4]; rfl)
          clear h4
          go_wp2_with fail
          go_ret
          exact ⟨ret_bool hf9.out.symm, (Fr.refl w).alloc _⟩
        · have d4 : decide (tot ≤ 400) = false := decide_eq_false h4
          have hf9 := Lib.hid (show smallB n j most = (bE != 0) by rw [hfin.out, ← he.out, decide_eq_false h4]; rfl)
          clear h4
          go_wp2_with fail
          refine (hbd.out _).mono ?_
          rintro e w1 ⟨rfl, hf1⟩
          have hfw : Fr w w1 := ((Fr.refl w).alloc _).trans hf1
          clear hf1
          go_wp2_with fail
          go_ret
          exact ⟨ret_bool hf9.out.symm, hfw⟩
end Go.Proofs.YtphjfalibnnohaaGreatDoor

/- A region that draws its order, whose last operation writes what the region has loaded: a condition S on the world is held up to the last operation. -/
namespace Go.Proofs.YtphjfalibnnohaaGreatDoor
open Go.RowKit Go.Lib
section
variable {P : Program} {ops : Array Oper} {Q : Exit → Act → World → Prop} {md : Region.Mode} {S : World → Prop} {n : Nat}

/-- whatever order is picked, and S holds behind every operation but number n -/
def wpAnyT (P : Program) (md : Region.Mode) (ops : Array Oper) (Q : Exit → Act → World → Prop) (S : World → Prop) (n : Nat) : Nat → Array Bool → Act → World → Prop
  | 0, listed, a, w => Region.ready md ops listed = [] ∧ Q .normal a w
  | fuel + 1, listed, a, w =>
    (Region.ready md ops listed = [] → Q .normal a w) ∧
    ∀ i ∈ Region.ready md ops listed, wpOp P ops Q i (fun a' w' => (i ≠ n → S w') ∧ wpAnyT P md ops Q S n fuel (listed.setIfInBounds i true) a' w') a w
theorem wpAny_of_T : ∀ (fuel : Nat) (listed : Array Bool) (a : Act) (w : World), wpAnyT P md ops Q S n fuel listed a w → wpAny P md ops Q fuel listed a w
  | 0, _, _, _, h => h
  | fuel + 1, _, _, _, h => ⟨h.1, fun i hi => wpOp_mono (fun a' w' h' => wpAny_of_T fuel _ a' w' h'.2) (h.2 i hi)⟩
/-- number n waits for all others -/
def lastB (md : Region.Mode) (ops : Array Oper) (n : Nat) : Bool := (List.range ops.size).all fun i => decide (i = n) || Region.waitsFor md ops n i
theorem last_no {listed : Array Bool} {i : Nat} (hl : lastB md ops n = true) (hi : i < ops.size) (hin : i ≠ n) (hun : listed.getD i true = false) : n ∉ Region.ready md ops listed := fun hr => by
  have h1 := List.all_eq_true.1 hl i (List.mem_range.2 hi)
  simp only [Bool.or_eq_true, decide_eq_true_eq] at h1
  rcases h1 with h1 | h1
  · exact hin h1
  · obtain ⟨o', ho', e, he, hb, hon⟩ := Region.waitsFor_spec h1
    obtain ⟨_, ot, hot, hall⟩ := mem_ready.1 hr
    have : o' = ot := Option.some.inj (ho'.symm.trans hot)
    subst this
    have h2 := hall e he hb
    rw [hon, getD_both hun] at h2
    cases h2
theorem wpAnyT_first {i : Nat} {oi : Oper} {v : Value} (hi : ops[i]? = some oi) (hl : lastB md ops n = true) (hin : i ≠ n) (hsel : ∀ (j : Nat) (o : Oper) cs b, ops[j]? = some o → o.op ≠ .select cs b)
    (hQ : ∀ c a w, Q (.panic c) (a.put oi.dst v) w → Q (.panic c) a w) :
    ∀ (fuel : Nat) (listed : Array Bool) (a : Act) (w : World),
      (∀ j oj, ops[j]? = some oj → j ≠ i → listed.getD j true = false → (∀ e ∈ oj.after, Region.binds md e = true → e.on ≠ i) → oi.apart ops oj = true) →
      i ∈ Region.ready md ops listed → YieldsIf P ops S oi v a → S w →
      wpAnyT P md ops Q S n fuel (listed.setIfInBounds i true) (a.put oi.dst v) w → wpAnyT P md ops Q S n (fuel + 1) listed a w := by
  have hisz : i < ops.size := (Array.getElem?_eq_some_iff.1 hi).1
  intro fuel
  induction fuel with
  | zero =>
    intro listed a w _ hr hy hS H
    refine ⟨fun h => (by rw [h] at hr; cases hr), fun j hj => ?_⟩
    by_cases hji : j = i
    · subst hji; exact hy.wpOp hi hS ⟨fun _ => hS, H⟩
    · have := ready_mono hj hji
      rw [H.1] at this
      cases this
  | succ fuel ih =>
    intro listed a w hfree hr hy hS H
    refine ⟨fun h => (by rw [h] at hr; cases hr), fun j hj => ?_⟩
    by_cases hji : j = i
    · subst hji; exact hy.wpOp hi hS ⟨fun _ => hS, H⟩
    · have h1 := H.2 j (ready_mono hj hji)
      have hjn : j ≠ n := fun e => last_no hl hisz hin (mem_ready.1 hr).1 (e ▸ hj)
      obtain ⟨hjun, oj, hoj, hall⟩ := mem_ready.1 hj
      have hnot : ∀ e ∈ oj.after, Region.binds md e = true → e.on ≠ i := fun e he hb heq => by
        have h1 := hall e he hb
        have h0 := (mem_ready.1 hr).1
        rw [heq, getD_both h0] at h1
        cases h1
      have h2 := wpOp_putIf hoj (hfree j oj hoj hji hjun hnot) (fun cs b => hsel i oi cs b hi) (fun cs b => hsel j oj cs b hoj) hQ hy h1
      have hfree' : ∀ k ok, ops[k]? = some ok → k ≠ i → (listed.setIfInBounds j true).getD k true = false →
          (∀ e ∈ ok.after, Region.binds md e = true → e.on ≠ i) → oi.apart ops ok = true := fun k ok hk hki hun hno => by
        refine hfree k ok hk hki ?_ hno
        by_cases hjk : j = k
        · subst hjk; exact hjun
        · rw [getD_set_ne true hjk] at hun; exact hun
      refine wpOp_mono (fun a' w' h3 => ⟨fun _ => h3.2.1 hjn, ih (listed.setIfInBounds j true) a' w' hfree' (ready_mono hr (Ne.symm hji)) h3.1 (h3.2.1 hjn) ?_⟩) h2
      rw [Array.setIfInBounds_comm _ _ hji]
      exact h3.2.2
theorem wpAnyT_take {i : Nat} {oi : Oper} {v : Value} {fuel : Nat} {listed : Array Bool} {a : Act} {w : World} (hi : ops[i]? = some oi) (hl : lastB md ops n = true) (hin : i ≠ n)
    (hs : Region.noSelect ops = true) (hf : Region.free md ops listed i = true) (hr : (Region.ready md ops listed).contains i = true)
    (hQ : ∀ c a w, Q (.panic c) (a.put oi.dst v) w → Q (.panic c) a w) (hy : YieldsIf P ops S oi v a) (hS : S w)
    (h : wpAnyT P md ops Q S n fuel (listed.setIfInBounds i true) (a.put oi.dst v) w) : wpAnyT P md ops Q S n (fuel + 1) listed a w :=
  wpAnyT_first hi hl hin (Region.noSelect_spec hs) hQ fuel listed a w (Region.free_spec hi hf) (by simpa using hr) hy hS h
def AllReadyT (P : Program) (md : Region.Mode) (ops : Array Oper) (Q : Exit → Act → World → Prop) (S : World → Prop) (n fuel : Nat) (listed : Array Bool) (a : Act) (w : World) (rs : List Nat) : Prop :=
  ∀ i ∈ rs, wpOp P ops Q i (fun a' w' => (i ≠ n → S w') ∧ wpAnyT P md ops Q S n fuel (listed.setIfInBounds i true) a' w') a w
theorem AllReadyT.nil {fuel : Nat} {listed : Array Bool} {a : Act} {w : World} : AllReadyT P md ops Q S n fuel listed a w [] := fun _ h => by cases h
theorem AllReadyT.cons {fuel : Nat} {listed : Array Bool} {a : Act} {w : World} {i : Nat} {o : Oper} {rs : List Nat} (ho : ops[i]? = some o) (hin : i ≠ n)
    (h : ∀ K' : Act → World → Prop, Shut (∀ a w, S w → (S w → wpAnyT P md ops Q S n fuel (listed.setIfInBounds i true) a w) → K' a w) → if Region.wanted o (yielded ops a.tmps) = true then Oper.wp P o a w K' Q else K' (a.put o.dst undef) w)
    (hs : AllReadyT P md ops Q S n fuel listed a w rs) : AllReadyT P md ops Q S n fuel listed a w (i :: rs) := fun j hj => by
  rcases List.mem_cons.1 hj with rfl | hj
  · exact wpOp_step ho (fun K' hK => h K' (fun a w hS hW => hK a w ⟨fun _ => hS, hW hS⟩))
  · exact hs j hj
/-- the last operation -/
theorem AllReadyT.last {fuel : Nat} {listed : Array Bool} {a : Act} {w : World} {o : Oper} (ho : ops[n]? = some o) (hd : Region.ready md ops (listed.setIfInBounds n true) = [])
    (h : ∀ K' : Act → World → Prop, Shut (∀ a w, Q .normal a w → K' a w) → if Region.wanted o (yielded ops a.tmps) = true then Oper.wp P o a w K' Q else K' (a.put o.dst undef) w) : AllReadyT P md ops Q S n fuel listed a w [n] := fun j hj => by
  rcases List.mem_cons.1 hj with rfl | hj
  · refine wpOp_step ho (fun K' hK => h K' (fun a w hq => hK a w ⟨fun h => absurd rfl h, ?_⟩))
    cases fuel with
    | zero => exact ⟨hd, hq⟩
    | succ f => exact ⟨fun _ => hq, by rw [hd]; intro i hi; cases hi⟩
  · cases hj
theorem wpAnyT_ready {rs : List Nat} {fuel : Nat} {listed : Array Bool} {a : Act} {w : World} (hr : Region.ready md ops listed = rs) (hne : rs ≠ [])
    (h : AllReadyT P md ops Q S n fuel listed a w rs) : wpAnyT P md ops Q S n (fuel + 1) listed a w :=
  ⟨fun h0 => absurd (hr ▸ h0) hne, hr ▸ h⟩
theorem wp_region_T {id : Nat} {a : Act} {w : World} (n : Nat) (hm : P.follows .mixedOrders = true) (hS : S w.drew)
    (h : S w.drew → wpAnyT P .any ops Q S n ops.size (Array.replicate ops.size false) a w.drew) : (Code.region id ops true).wp P Q a w :=
  wp_region_any hm (wpAny_of_T _ _ _ _ (h hS))
end
end Go.Proofs.YtphjfalibnnohaaGreatDoor

/- schismalaw43.read. -/
namespace Go.Proofs.YtphjfalibnnohaaGreatDoor
open Go.RowKit Go.Lib
attribute [local go_sem ↓] Go.wp_at_zero Go.wp_at_succ

theorem two_heap {W : World} {b : Nat} {x y : Value} {t : TypeId} (h : W.heap[b]? = some (.cells #[x, y] t (0, 0))) (u v : Value) : ((W.setCell ⟨b, 0, none⟩ u).setCell ⟨b, 1, none⟩ v).heap[b]? = some (.cells #[u, v] t (0, 0)) := by
  have e1 : (W.setCell ⟨b, 0, none⟩ u).heap[b]? = some (.cells #[u, y] t (0, 0)) := by
    unfold World.setCell
    rw [Array.getElem?_modify, if_pos rfl, h]; rfl
  unfold World.setCell at e1 ⊢
  rw [Array.getElem?_modify, if_pos rfl, e1]; rfl
/-- an element of the row of a spelling, with j accidentals read -/
def partS (N A : List Sy) (s : Nat × List Int) (c j : Nat) : Int := ((sumL (rowOf N s.1) (s.2.take j) ((A.map Sy.row).take j))[c]?).getD 0

theorem partS_zero {N A : List Sy} {i c : Nat} {x : Sy} {cs : List Int} {v : Int} (hx : N[i]? = some x) (hv : x.row[c]? = some v) : partS N A (i, cs) c 0 = v := by
  unfold partS
  rw [List.take_zero]
  show ((sumL (rowOf N i) [] _)[c]?).getD 0 = v
  rw [show sumL (rowOf N i) [] ((A.map Sy.row).take 0) = rowOf N i by rw [List.take_zero]; rfl, rowOf_eq hx, hv]; rfl
theorem partS_step {N A : List Sy} {i c j d : Nat} {x s : Sy} {cs : List Int} {k y : Int} (hx : N[i]? = some x) (hxd : x.row.length = d) (hA : ∀ s, s ∈ A → s.row.length = d) (hc : c < d) (hk : cs[j]? = some k) (hs : A[j]? = some s) (hy : s.row[c]? = some y) :
    partS N A (i, cs) c (j + 1) = partS N A (i, cs) c j + k * y := by
  unfold partS
  have hsr : (A.map Sy.row)[j]? = some s.row := by rw [List.getElem?_map, hs]; rfl
  have hl := sumL_length d (cs.take j) ((A.map Sy.row).take j) (rowOf N i) (by rw [rowOf_eq hx]; exact hxd) (fun r hr => by obtain ⟨t, ht, rfl⟩ := List.mem_map.1 (List.mem_of_mem_take hr); exact hA t ht)
  show ((sumL (rowOf N i) (cs.take (j + 1)) ((A.map Sy.row).take (j + 1)))[c]?).getD 0 = ((sumL (rowOf N i) (cs.take j) ((A.map Sy.row).take j))[c]?).getD 0 + k * y
  rw [sumL_step (rowOf N i) cs (A.map Sy.row) j k s.row hk hsr]
  generalize sumL (rowOf N i) (cs.take j) ((A.map Sy.row).take j) = R at *
  have hR := List.getElem?_eq_getElem (l := R) (i := c) (by omega)
  rw [addK_get hR hy, hR]; rfl
theorem partS_end {N A : List Sy} {i c : Nat} {cs : List Int} {L : List Int} (hL : L = sumS N A (i, cs)) (hl : cs.length = A.length) (hc : c < L.length) : L[c]? = some (partS N A (i, cs) c cs.length) := by
  unfold partS
  rw [List.take_length, List.take_of_length_le (by rw [List.length_map]; omega)]
  show L[c]? = some (((sumL (rowOf N i) cs (A.map Sy.row))[c]?).getD 0)
  have e : sumL (rowOf N i) cs (A.map Sy.row) = L := hL.symm
  rw [e, List.getElem?_eq_getElem hc]; rfl
theorem partS_bd {N A : List Sy} {i c : Nat} {x : Sy} {cs : List Int} (hx : N[i]? = some x) (hf : ∀ y, y ∈ x.row → fitB y = true) (hA : ∀ s, s ∈ A → ∀ y, y ∈ s.row → fitB y = true) (hcs : ∀ k, k ∈ cs → fitB k = true) (hl : cs.length ≤ 6) (j : Nat) : -10000000000000000000 ≤ partS N A (i, cs) c j ∧ partS N A (i, cs) c j ≤ 10000000000000000000 := by
  unfold partS
  have h := sumL_bd (cs.take j) ((A.map Sy.row).take j) (rowOf N i) 1000000000 (fun y hy => by rw [rowOf_eq hx] at hy; exact fitB_bd (hf y hy)) (fun k hk => hcs k (List.mem_of_mem_take hk)) (fun r hr => by obtain ⟨t, ht, rfl⟩ := List.mem_map.1 (List.mem_of_mem_take hr); exact hA t ht)
  show -10000000000000000000 ≤ ((sumL (rowOf N i) (cs.take j) ((A.map Sy.row).take j))[c]?).getD 0 ∧ ((sumL (rowOf N i) (cs.take j) ((A.map Sy.row).take j))[c]?).getD 0 ≤ 10000000000000000000
  cases e : (sumL (rowOf N i) (cs.take j) ((A.map Sy.row).take j))[c]? with
  | none => show (-10000000000000000000 : Int) ≤ 0 ∧ (0 : Int) ≤ 10000000000000000000; omega
  | some v =>
    have h1 := h v (List.mem_of_getElem? e)
    have h2 : (cs.take j).length ≤ 6 := by rw [List.length_take]; omega
    show -10000000000000000000 ≤ v ∧ v ≤ 10000000000000000000
    omega

set_option maxRecDepth 100000 in
set_option maxHeartbeats 4000000 in
theorem read_law (d : Nat) (aN aA : Option Addr) (cN cA : Nat) (N A : List Sy) (i : Nat) (cs : List Int) (ca : Option Addr) (cc : Nat) (w : World) (hG : G w) (hn : NotIs w aN aA cA N A) (hok : NotOk d N A) (hi : i < N.length) (hcs : El w iv ca cs) (hl : cs.length = A.length) (hfit : ∀ x, x ∈ cs → fitB x = true) :
    Calls Tryz.prog 22 #[.agg #[.slice aN N.length cN, .slice aA A.length cA], .agg #[.int .i64 i, .slice ca cs.length cc]] w (IntsRet w (sumS N A (i, cs))) := by
  obtain ⟨i0, hi9, hz0, hz1, hz2⟩ := info_parts info65
  obtain ⟨x, hx⟩ : ∃ x, N[i]? = some x := ⟨_, List.getElem?_eq_getElem hi⟩
  obtain ⟨x0, hx0⟩ : ∃ x0, N[0]? = some x0 := ⟨_, List.getElem?_eq_getElem (by omega)⟩
  have hxd := hok.row x (List.mem_append_left _ (List.mem_of_getElem? hx))
  have hx0d := hok.row x0 (List.mem_append_left _ (List.mem_of_getElem? hx0))
  obtain ⟨nn, hnn⟩ : ∃ nn, nn = N.length := ⟨_, rfl⟩
  obtain ⟨na, hna⟩ : ∃ na, na = A.length := ⟨_, rfl⟩
  have hnn60 := hok.n60
  have hna6 := hok.a6
  have hd12 := hok.d12
  rw [← hnn] at hi hnn60
  rw [← hna] at hna6 hl
  rw [hl, ← hnn, ← hna]
  obtain ⟨wb, hwb⟩ : ∃ wb, wb = alls w [(.cells #[.slice aN nn cN, .slice aA na cA] 30), (.cells #[.int .i64 i, .slice ca na cc] 42)] := ⟨_, rfl⟩
  have g0 : wb.heap[w.heap.size]? = some (.cells #[.slice aN nn cN, .slice aA na cA] 30 (0, 0)) := by rw [hwb]; exact alls_get _ w 0 _ rfl
  have g1 : wb.heap[w.heap.size + 1]? = some (.cells #[.int .i64 i, .slice ca na cc] 42 (0, 0)) := by rw [hwb]; exact alls_get _ w 1 _ rfl
  have hfb : Fr w wb := by rw [hwb]; exact alls_fr _ w
  have hsb := Lib.hid (show wb.heap.size = w.heap.size + 1 + 1 by rw [hwb]; simp [alls])
  have b0 : wb.cell? ⟨w.heap.size, 0, none⟩ = some (.slice aN nn cN) := cells_of g0 0
  have b1 : wb.cell? ⟨w.heap.size, 1, none⟩ = some (.slice aA na cA) := cells_of g0 1
  have b2 : wb.cell? ⟨w.heap.size + 1, 0, none⟩ = some (.int .i64 i) := cells_of g1 0
  have b3 : wb.cell? ⟨w.heap.size + 1, 1, none⟩ = some (.slice ca na cc) := cells_of g1 1
  clear g0 g1
  obtain ⟨nb, no, y, hae, -, hy, n0, n1, hye⟩ := hn.noms.at (i := i) (by rw [← hnn]; exact hi)
  rw [hx] at hy; injection hy with hy; subst hy
  obtain ⟨nb', no', y, hae', -, hy, m0, m1, -⟩ := hn.noms.at (i := 0) (by rw [← hnn]; omega)
  rw [hx0] at hy; injection hy with hy; subst hy
  rw [hae] at hae'; injection hae' with hae'; injection hae' with e1 e2
  subst e1; subst e2
  subst hae
  rw [hxd] at n1
  rw [hx0d] at m1
  replace n1 := hfb.keep n1
  replace m1 := hfb.keep m1
  rw [show no + 0 * 2 + 1 = no + 1 by omega] at m1
  have hsumd := sumL_length d cs (A.map Sy.row) (rowOf N i) (by rw [rowOf_eq hx]; exact hxd) (fun r hr => by obtain ⟨s, hs, rfl⟩ := List.mem_map.1 hr; exact hok.row s (List.mem_append_right _ hs))
  obtain ⟨L, hL⟩ : ∃ L, L = sumS N A (i, cs) := ⟨_, rfl⟩
  have hLd : L.length = d := by rw [hL]; exact hsumd
  rw [← hL]
  replace hL := Lib.hid hL
  replace hLd := Lib.hid hLd
  replace hn := Lib.hid hn
  replace hok := Lib.hid hok
  replace hx := Lib.hid hx
  replace hx0 := Lib.hid hx0
  replace hl := Lib.hid hl
  replace hnn := Lib.hid hnn
  replace hna := Lib.hid hna
  replace hfit := Lib.hid hfit
  replace hcs := Lib.hid hcs
  clear hsumd hxd hx0d n0 m0
  have hb1 := Lib.hid b1
  have hb3 := Lib.hid b3
  have z0 : (0 : Int) ≤ (i : Int) := by omega
  have z1 : (i : Int) < (nn : Int) := by omega
  have z2 : 0 < nn := by omega
  go_enter Tryz.func22, Tryz.ntmps22
  go_upto_region 1 with (fail)
  change Code.wp _ _ _ _ (alls w [(.cells #[.slice _ nn cN, .slice aA na cA] 30), (.cells #[.int .i64 i, .slice ca na cc] 42)])
  rw [← hwb]
  clear hwb
  go_wp2_with fail
  go_loopg [5, 16] d (fun gk s5 s16 wr => ∃ c : Nat, s16 = .int .i64 c ∧ c + gk = d ∧ Fr wb wr ∧ Hid (wr.ownsRow wb.heap.size 65 1 s5 c ((L.take c).map sv)))
  case atStart => exact ⟨0, rfl, by omega, Fr.refl _, World.ownsRow_nil _ _ _ _⟩
  case round =>
    obtain ⟨c, rfl, hck, hf, hown⟩ := hrel
    replace b0 := hf.keep b0
    replace b1 := hf.keep b1
    replace b2 := hf.keep b2
    replace b3 := hf.keep b3
    replace n1 := hf.keep n1
    by_cases hc : c < d
    · have d1 : decide (c < d) = true := decide_eq_true hc
      have hxd := hok.out.row x (List.mem_append_left _ (List.mem_of_getElem? hx.out))
      obtain ⟨rb, ro, v, hra, -, hxv, hrc⟩ := (hye.fr (hfb.trans hf)).at (i := c) (by rw [hxd]; exact hc)
      rw [hra] at n1
      have hv := fitB_bd (hok.out.fit x (List.mem_append_left _ (List.mem_of_getElem? hx.out)) v (List.mem_of_getElem? hxv))
      have hof := Lib.hid (OfR_any v (by omega) (by omega) wr (hG.fr (hfb.trans hf)))
      have hp0 := Lib.hid (partS_zero (A := A) (cs := cs) hx.out hxv)
      have y0 : (0 : Int) ≤ (c : Int) := by omega
      have y1 : (c : Int) < (d : Int) := by omega
      clear hxd hv
      replace hxv := Lib.hid hxv
      go_wp2_with fail
      refine hof.out.mono ?_
      rintro e w2 ⟨r, rfl, hr, hf2⟩
      have hr2 := hr
      obtain ⟨sa, sc, rfl, -, -⟩ := hr2
      have b1' := hf2.keep b1
      replace hr := Lib.hid hr
      obtain ⟨w3, hw3⟩ : ∃ w3, w3 = w2.alloc (.cells #[.bool (decide (v < 0)), .slice sa (digs v.natAbs).length sc] 95) := ⟨_, rfl⟩
      have hf3 : Fr w2 w3 := by rw [hw3]; exact (Fr.refl _).alloc _
      have g3 : w3.heap[w2.heap.size]? = some (.cells #[.bool (decide (v < 0)), .slice sa (digs v.natAbs).length sc] 95 (0, 0)) := by rw [hw3]; exact heap_alloc_new _ _
      have hfB : Fr wb w3 := (hf.trans hf2).trans hf3
      have hsz2 : wb.heap.size ≤ w2.heap.size := (hf.trans hf2).size
      rw [hsb.out] at hsz2
      replace g3 := Lib.hid g3
      have hr3 := Lib.hid (hr.out.fr hf3)
      go_upto_region 6 with (fail)
      change Code.wp _ _ _ _ (w2.alloc (.cells #[.bool (decide (v < 0)), .slice sa (digs v.natAbs).length sc] 95))
      rw [← hw3]
      clear hw3
      have b1'' := hf3.keep b1'
      obtain ⟨ko, rfl⟩ : ∃ ko : Nat, ko = gk := ⟨_, rfl⟩
      obtain ⟨wo, rfl⟩ : ∃ wo : World, wo = wr := ⟨_, rfl⟩
      go_wp2_with fail
      go_loopg [33] na (fun gk s33 wr2 => ∃ (j : Nat) (bv : Bool) (sa : Option Addr) (sn sc : Nat), s33 = .int .i64 j ∧ j + gk = na ∧ Fx (· = w2.heap.size) w3 wr2 ∧ Hid (wr2.heap[w2.heap.size]? = some (.cells #[.bool bv, .slice sa sn sc] 95 (0, 0))) ∧ Hid (WI wr2 (partS N A (i, cs) c j) (.agg #[.bool bv, .slice sa sn sc])))
      case atStart => exact ⟨0, _, _, _, _, rfl, by omega, Fx.refl _ _, g3, by rw [hp0.out]; exact hr3⟩
      case round =>
        clear g3 hr3 b0 b1 b2 b3 b1' b1''
        obtain ⟨j, bv, sa, sn, sc, rfl, hjk, hfx, g3, hr3⟩ := hrel
        have hfW : Fr wb wr := ((Fx.of_fr hfB).trans hfx).toFr (fun k hk e => by have e : k = w2.heap.size := e; have := hsb.out; omega)
        have c1 := hfW.keep hb1.out
        have c3 := hfW.keep hb3.out
        by_cases hj : j < na
        · have dj : decide (j < na) = true := decide_eq_true hj
          obtain ⟨ab, ao, s, rfl, -, hs, s0, s1, hse⟩ := (hn.out.accs.fr (hfb.trans hfW)).at (i := j) (by rw [← hna.out]; exact hj)
          have hsd := hok.out.row s (List.mem_append_right _ (List.mem_of_getElem? hs))
          rw [hsd] at s1
          obtain ⟨cb, co, k, rfl, -, hk, hkc⟩ := (hcs.out.fr (hfb.trans hfW)).at (i := j) (by rw [hl.out]; exact hj)
          obtain ⟨qb, qo, y, hsra, -, hy, hyc⟩ := hse.at (i := c) (by rw [hsd]; exact hc)
          rw [hsra] at s1
          have hkb := fitB_bd (hfit.out k (List.mem_of_getElem? hk))
          have hyb := fitB_bd (hok.out.fit s (List.mem_append_right _ (List.mem_of_getElem? hs)) y (List.mem_of_getElem? hy))
          have hps := Lib.hid (partS_step (c := c) hx.out (hok.out.row x (List.mem_append_left _ (List.mem_of_getElem? hx.out))) (fun s hs => hok.out.row s (List.mem_append_right _ hs)) hc hk hs hy)
          have hpb := Lib.hid (partS_bd (c := c) hx.out (hok.out.fit x (List.mem_append_left _ (List.mem_of_getElem? hx.out))) (fun s hs => hok.out.fit s (List.mem_append_right _ hs)) hfit.out (by have := hl.out; omega) j)
          generalize partS N A (i, cs) c j = z at *
          have t0 : (0 : Int) ≤ (j : Int) := by omega
          have t1 : (j : Int) < (na : Int) := by omega
          replace hs := Lib.hid hs
          replace hk := Lib.hid hk
          replace hy := Lib.hid hy
          replace hsra := Lib.hid hsra
          clear hsd
          obtain ⟨nm, hnm⟩ : ∃ nm, nm = s.nm := ⟨_, rfl⟩
          rw [← hnm] at s0
          replace hnm := Lib.hid hnm
          go_upto_region 9 with (fail)
          obtain ⟨w4, hw4⟩ : ∃ w4, w4 = wr.alloc (Obj.cells #[Value.string nm, Value.slice (some { block := qb, off := qo }) d s.rc] 35) := ⟨_, rfl⟩
          have hf4 : Fr wr w4 := by rw [hw4]; exact (Fr.refl _).alloc _
          have x1 : w4.cell? ⟨wr.heap.size, 1, none⟩ = some (.slice (some ⟨qb, qo, none⟩) d s.rc) := by rw [hw4]; exact (new2b _ _ _ _).1
          rw [← hw4]
          replace hw4 := Lib.hid hw4
          replace c3 := hf4.keep c3
          replace hkc := hf4.keep hkc
          replace hyc := hf4.keep hyc
          have q0 : w4.cell? ⟨w2.heap.size, 0, none⟩ = some (.bool bv) := hf4.keep (cells_of g3.out 0)
          have q1 : w4.cell? ⟨w2.heap.size, 1, none⟩ = some (.slice sa sn sc) := hf4.keep (cells_of g3.out 1)
          have hS0 := Lib.hid (fun W (hW : Fr w4 W) => (⟨hW.keep q0, hW.keep q1, hW.keep c3, hW.keep hkc, hW.keep x1, hW.keep hyc⟩ : W.cell? ⟨w2.heap.size, 0, none⟩ = some (.bool bv) ∧ W.cell? ⟨w2.heap.size, 1, none⟩ = some (.slice sa sn sc) ∧ W.cell? ⟨w.heap.size + 1, 1, none⟩ = some (.slice (some ⟨cb, co, none⟩) na cc) ∧ W.cell? ⟨cb, co + j, none⟩ = some (iv k) ∧ W.cell? ⟨wr.heap.size, 1, none⟩ = some (.slice (some ⟨qb, qo, none⟩) d s.rc) ∧ W.cell? ⟨qb, qo + c, none⟩ = some (iv y)))
          refine wp_region_T (S := fun W => W.cell? ⟨w2.heap.size, 0, none⟩ = some (.bool bv) ∧ W.cell? ⟨w2.heap.size, 1, none⟩ = some (.slice sa sn sc) ∧ W.cell? ⟨w.heap.size + 1, 1, none⟩ = some (.slice (some ⟨cb, co, none⟩) na cc) ∧ W.cell? ⟨cb, co + j, none⟩ = some (iv k) ∧ W.cell? ⟨wr.heap.size, 1, none⟩ = some (.slice (some ⟨qb, qo, none⟩) d s.rc) ∧ W.cell? ⟨qb, qo + c, none⟩ = some (iv y)) 15 (by kernel_rfl) (hS0.out _ ((Fr.refl _).drew)) (fun hHeld => ?_)
          refine wpAnyT_take (i := 0) (v := ?_) rfl (by kernel_rfl) (by decide) (by kernel_rfl) (by kernel_rfl) (by kernel_rfl) (fun _ _ _ h => h) (Or.inl ⟨by rfl, ?_⟩) (by assumption) ?_
          rotate_left
          · (intro w hSw; (try dsimp only at hSw); go_simp; try (with_reducible rfl))
          change wpAnyT _ _ _ _ _ _ _ _ (Act.put _ (some 38) _) _
          simp only [Act.put, List.setIfInBounds_toArray, List.set_cons_zero, List.set_cons_succ]
          refine wpAnyT_take (i := 1) (v := ?_) rfl (by kernel_rfl) (by decide) (by kernel_rfl) (by kernel_rfl) (by kernel_rfl) (fun _ _ _ h => h) (Or.inl ⟨by rfl, ?_⟩) (by assumption) ?_
          rotate_left
          · (intro w hSw; (try dsimp only at hSw); go_simp; try (with_reducible rfl))
          change wpAnyT _ _ _ _ _ _ _ _ (Act.put _ (some 39) _) _
          simp only [Act.put, List.setIfInBounds_toArray, List.set_cons_zero, List.set_cons_succ]
          refine wpAnyT_take (i := 2) (v := ?_) rfl (by kernel_rfl) (by decide) (by kernel_rfl) (by kernel_rfl) (by kernel_rfl) (fun _ _ _ h => h) (Or.inl ⟨by rfl, ?_⟩) (by assumption) ?_
          rotate_left
          · (intro w hSw; (try dsimp only at hSw); go_simp; try (with_reducible rfl))
          change wpAnyT _ _ _ _ _ _ _ _ (Act.put _ (some 40) _) _
          simp only [Act.put, List.setIfInBounds_toArray, List.set_cons_zero, List.set_cons_succ]
          refine wpAnyT_take (i := 3) (v := ?_) rfl (by kernel_rfl) (by decide) (by kernel_rfl) (by kernel_rfl) (by kernel_rfl) (fun _ _ _ h => h) (Or.inl ⟨by rfl, ?_⟩) (by assumption) ?_
          rotate_left
          · (intro w hSw; (try dsimp only at hSw); go_simp; try (with_reducible rfl))
          change wpAnyT _ _ _ _ _ _ _ _ (Act.put _ (some 41) _) _
          simp only [Act.put, List.setIfInBounds_toArray, List.set_cons_zero, List.set_cons_succ]
          refine wpAnyT_take (i := 4) (v := ?_) rfl (by kernel_rfl) (by decide) (by kernel_rfl) (by kernel_rfl) (by kernel_rfl) (fun _ _ _ h => h) (Or.inl ⟨by rfl, ?_⟩) (by assumption) ?_
          rotate_left
          · (intro w hSw; (try dsimp only at hSw); go_simp; try (with_reducible rfl))
          change wpAnyT _ _ _ _ _ _ _ _ (Act.put _ (some 42) _) _
          simp only [Act.put, List.setIfInBounds_toArray, List.set_cons_zero, List.set_cons_succ]
          refine wpAnyT_take (i := 5) (v := ?_) rfl (by kernel_rfl) (by decide) (by kernel_rfl) (by kernel_rfl) (by kernel_rfl) (fun _ _ _ h => h) (Or.inl ⟨by rfl, ?_⟩) (by assumption) ?_
          rotate_left
          · (intro w hSw; (try dsimp only at hSw); go_simp; try (with_reducible rfl))
          change wpAnyT _ _ _ _ _ _ _ _ (Act.put _ (some 43) _) _
          simp only [Act.put, List.setIfInBounds_toArray, List.set_cons_zero, List.set_cons_succ]
          refine wpAnyT_take (i := 7) (v := ?_) rfl (by kernel_rfl) (by decide) (by kernel_rfl) (by kernel_rfl) (by kernel_rfl) (fun _ _ _ h => h) (Or.inl ⟨by rfl, ?_⟩) (by assumption) ?_
          rotate_left
          · (intro w hSw; (try dsimp only at hSw); go_simp; try (with_reducible rfl))
          change wpAnyT _ _ _ _ _ _ _ _ (Act.put _ (some 45) _) _
          simp only [Act.put, List.setIfInBounds_toArray, List.set_cons_zero, List.set_cons_succ]
          refine wpAnyT_take (i := 8) (v := ?_) rfl (by kernel_rfl) (by decide) (by kernel_rfl) (by kernel_rfl) (by kernel_rfl) (fun _ _ _ h => h) (Or.inl ⟨by rfl, ?_⟩) (by assumption) ?_
          rotate_left
          · (intro w hSw; (try dsimp only at hSw); go_simp; try (with_reducible rfl))
          change wpAnyT _ _ _ _ _ _ _ _ (Act.put _ (some 46) _) _
          simp only [Act.put, List.setIfInBounds_toArray, List.set_cons_zero, List.set_cons_succ]
          refine wpAnyT_take (i := 9) (v := ?_) rfl (by kernel_rfl) (by decide) (by kernel_rfl) (by kernel_rfl) (by kernel_rfl) (fun _ _ _ h => h) (Or.inl ⟨by rfl, ?_⟩) (by assumption) ?_
          rotate_left
          · (intro w hSw; (try dsimp only at hSw); go_simp; try (with_reducible rfl))
          change wpAnyT _ _ _ _ _ _ _ _ (Act.put _ (some 47) _) _
          simp only [Act.put, List.setIfInBounds_toArray, List.set_cons_zero, List.set_cons_succ]
          refine wpAnyT_take (i := 10) (v := ?_) rfl (by kernel_rfl) (by decide) (by kernel_rfl) (by kernel_rfl) (by kernel_rfl) (fun _ _ _ h => h) (Or.inl ⟨by rfl, ?_⟩) (by assumption) ?_
          rotate_left
          · (intro w hSw; (try dsimp only at hSw); go_simp; try (with_reducible rfl))
          change wpAnyT _ _ _ _ _ _ _ _ (Act.put _ (some 48) _) _
          simp only [Act.put, List.setIfInBounds_toArray, List.set_cons_zero, List.set_cons_succ]
          refine wpAnyT_take (i := 11) (v := ?_) rfl (by kernel_rfl) (by decide) (by kernel_rfl) (by kernel_rfl) (by kernel_rfl) (fun _ _ _ h => h) (Or.inl ⟨by rfl, ?_⟩) (by assumption) ?_
          rotate_left
          · (intro w hSw; (try dsimp only at hSw); go_simp; try (with_reducible rfl))
          change wpAnyT _ _ _ _ _ _ _ _ (Act.put _ (some 49) _) _
          simp only [Act.put, List.setIfInBounds_toArray, List.set_cons_zero, List.set_cons_succ]
          have hk9 := Lib.hid (fun W (hW : Fr w4 W) => OfR_any k (by omega) (by omega) W (hG.fr (((hfb.trans hfW).trans hf4).trans hW)))
          have hy9 := Lib.hid (fun W (hW : Fr w4 W) => OfR_any y (by omega) (by omega) W (hG.fr (((hfb.trans hfW).trans hf4).trans hW)))
          have hkd := digs_len 2 k.natAbs (by omega)
          have hyd := digs_len 2 y.natAbs (by omega)
          have hkyd := mul_e18 hkb hyb
          have hkyd2 := digs_len 3 (k * y).natAbs (by omega)
          have hzd := digs_len 3 z.natAbs (by have := hpb.out; omega)
          have hzd2 := digs_len 3 (z.natAbs + (k * y).natAbs) (by have := hpb.out; omega)
          have hm9 := Lib.hid (fun W u v (h1 : WI W k u) (h2 : WI W y v) => MulW_any k y u v W h1 h2 (by omega) (by omega))
          have ha9 := Lib.hid (fun W u (hW : Fr w4 W) (h1 : WI W (k * y) u) => AddW_any z (k * y) _ u W (hr3.out.fr (hf4.trans hW)) h1 (by omega) (by omega) (by omega))
          clear hkd hyd hkyd hkyd2 hzd hzd2
          refine wpAnyT_ready (rs := [6]) (by kernel_rfl) (by simp) ?_
          refine AllReadyT.cons rfl (by decide) (fun K hK => ?_) AllReadyT.nil
          go_simp
          (refine (hk9.out _ (by repeat (with_reducible first | assumption | exact Fr.refl _ | refine Fr.drew ?_ | refine Fr.drewN ?_ _ | refine Fr.alloc ?_ _ | (refine Fr.setCell ?_ (by simp only [World.size_alloc, World.size_drew, World.size_setCell]; omega) _) | refine Fr.trans ?_ (by assumption)))).mono ?_; rintro e w5 ⟨r1, rfl, hr1, hf5⟩; replace hr1 := Lib.hid hr1)
          go_wp2_with fail
          refine hK.out _ _ (hS0.out _ (by repeat (with_reducible first | assumption | exact Fr.refl _ | refine Fr.drew ?_ | refine Fr.drewN ?_ _ | refine Fr.alloc ?_ _ | (refine Fr.setCell ?_ (by simp only [World.size_alloc, World.size_drew, World.size_setCell]; omega) _) | refine Fr.trans ?_ (by assumption)))) (fun hHeld => ?_)
          clear hK K
          try simp only [Act.put, List.setIfInBounds_toArray, List.set_cons_zero, List.set_cons_succ]
          refine wpAnyT_ready (rs := [12]) (by kernel_rfl) (by simp) ?_
          refine AllReadyT.cons rfl (by decide) (fun K hK => ?_) AllReadyT.nil
          go_simp
          (refine (hy9.out _ (by repeat (with_reducible first | assumption | exact Fr.refl _ | refine Fr.drew ?_ | refine Fr.drewN ?_ _ | refine Fr.alloc ?_ _ | (refine Fr.setCell ?_ (by simp only [World.size_alloc, World.size_drew, World.size_setCell]; omega) _) | refine Fr.trans ?_ (by assumption)))).mono ?_; rintro e w6 ⟨r2, rfl, hr2, hf6⟩; replace hr2 := Lib.hid hr2)
          go_wp2_with fail
          refine hK.out _ _ (hS0.out _ (by repeat (with_reducible first | assumption | exact Fr.refl _ | refine Fr.drew ?_ | refine Fr.drewN ?_ _ | refine Fr.alloc ?_ _ | (refine Fr.setCell ?_ (by simp only [World.size_alloc, World.size_drew, World.size_setCell]; omega) _) | refine Fr.trans ?_ (by assumption)))) (fun hHeld => ?_)
          clear hK K
          try simp only [Act.put, List.setIfInBounds_toArray, List.set_cons_zero, List.set_cons_succ]
          refine wpAnyT_ready (rs := [13]) (by kernel_rfl) (by simp) ?_
          refine AllReadyT.cons rfl (by decide) (fun K hK => ?_) AllReadyT.nil
          go_simp
          (refine (hm9.out _ _ _ (hr1.out.fr hf6) hr2.out).mono ?_; rintro e w7 ⟨r3, rfl, hr5, hf7⟩; replace hr5 := Lib.hid hr5)
          go_wp2_with fail
          refine hK.out _ _ (hS0.out _ (by repeat (with_reducible first | assumption | exact Fr.refl _ | refine Fr.drew ?_ | refine Fr.drewN ?_ _ | refine Fr.alloc ?_ _ | (refine Fr.setCell ?_ (by simp only [World.size_alloc, World.size_drew, World.size_setCell]; omega) _) | refine Fr.trans ?_ (by assumption)))) (fun hHeld => ?_)
          clear hK K
          try simp only [Act.put, List.setIfInBounds_toArray, List.set_cons_zero, List.set_cons_succ]
          refine wpAnyT_ready (rs := [14]) (by kernel_rfl) (by simp) ?_
          refine AllReadyT.cons rfl (by decide) (fun K hK => ?_) AllReadyT.nil
          go_simp
          (refine (ha9.out _ _ (by repeat (with_reducible first | assumption | exact Fr.refl _ | refine Fr.drew ?_ | refine Fr.drewN ?_ _ | refine Fr.alloc ?_ _ | (refine Fr.setCell ?_ (by simp only [World.size_alloc, World.size_drew, World.size_setCell]; omega) _) | refine Fr.trans ?_ (by assumption))) hr5.out).mono ?_; rintro e w8 ⟨r4, rfl, hr6, hf8⟩)
          go_wp2_with fail
          refine hK.out _ _ (hS0.out _ (by repeat (with_reducible first | assumption | exact Fr.refl _ | refine Fr.drew ?_ | refine Fr.drewN ?_ _ | refine Fr.alloc ?_ _ | (refine Fr.setCell ?_ (by simp only [World.size_alloc, World.size_drew, World.size_setCell]; omega) _) | refine Fr.trans ?_ (by assumption)))) (fun hHeld => ?_)
          clear hK K
          try simp only [Act.put, List.setIfInBounds_toArray, List.set_cons_zero, List.set_cons_succ]
          have hf48 : Fr w4 w8 := by repeat (with_reducible first | assumption | exact Fr.refl _ | refine Fr.drew ?_ | refine Fr.drewN ?_ _ | refine Fr.alloc ?_ _ | (refine Fr.setCell ?_ (by simp only [World.size_alloc, World.size_drew, World.size_setCell]; omega) _) | refine Fr.trans ?_ (by assumption))
          have hfr8 : Fr wr w8 := hf4.trans hf48
          have hr6' := hr6
          obtain ⟨sa6, sc6, rfl, -, -⟩ := hr6'
          have g8 := (Below.block hfr8 _ (lt_of_heap g3.out)).trans g3.out
          have u0 : w8.cell? ⟨w2.heap.size, 0, none⟩ = some (.bool bv) := cells_of g8 0
          have u1 : w8.cell? ⟨w2.heap.size, 1, none⟩ = some (.slice sa sn sc) := cells_of g8 1
          have u2 : w8.frozen? ⟨w2.heap.size, 0, none⟩ = false := by unfold World.frozen?; rw [g8]; rfl
          have u3 : w8.frozen? ⟨w2.heap.size, 1, none⟩ = false := by unfold World.frozen?; rw [g8]; rfl
          replace hr6 := Lib.hid hr6
          replace g8 := Lib.hid g8
          have qs := two_store w8 w2.heap.size (.bool (decide (z + k * y < 0))) (.slice sa6 (digs (z + k * y).natAbs).length sc6) _ _ u0 u1
          have q8 := qs.2.2.1
          have qs := Lib.hid qs
          refine wpAnyT_ready (rs := [15]) (by kernel_rfl) (by simp) ?_
          refine AllReadyT.last rfl (by kernel_rfl) (fun K hK => ?_)
          go_simp
          refine hK.out _ _ ?_
          clear hK K
          have g9 := Lib.hid (two_heap g8.out (.bool (decide (z + k * y < 0))) (.slice sa6 (digs (z + k * y).natAbs).length sc6))
          have hw9 := WI.storedc (hfb.trans hfW) hfr8 qs.out.2.2.2 (by omega) hr6.out g8.out
          have hfx9 : Fx (· = w2.heap.size) w3 _ := (hfx.fr hfr8).trans qs.out.2.2.2
          replace hw9 := Lib.hid hw9.1
          clear qs u0 u1 u2 u3 q8 hHeld
          go_wp2_with fail
          go_roundg (gk - 1)
          case measure => omega
          case rel => exact ⟨j + 1, _, _, _, _, by go_num, by omega, hfx9, g9, by rw [hps.out]; exact hw9⟩
        · obtain rfl : j = na := by omega
          have dj : decide (j < j) = false := decide_eq_false hj
          have hend := Lib.hid (partS_end hL.out (by rw [hl.out]; exact hna.out) (by rw [hLd.out]; exact hc))
          rw [hl.out] at hend
          have hpb := Lib.hid (partS_bd (c := c) hx.out (hok.out.fit x (List.mem_append_left _ (List.mem_of_getElem? hx.out))) (fun s hs => hok.out.fit s (List.mem_append_right _ hs)) hfit.out (by have := hl.out; omega) j)
          generalize partS N A (i, cs) c j = z at *
          have hzd := digs_len 3 z.natAbs (by have := hpb.out; omega)
          have hfr9 := Lib.hid (From_any z _ wr (hG.fr (hfb.trans hfW)) hr3.out (by omega))
          have hown2 := ownsRow_fr hown.out (hf2.trans hf3)
          have hne : ∀ g, u5.ownBlock = some g → g ≠ w2.heap.size := fun g hg e => by have h9 := ((ownsRow_fr hown.out hf2).lt g hg).2; omega
          have hown3 := ownsRow_fx hown2 hfx (fun g hg e => hne g hg e)
          replace hown3 := Lib.hid hown3
          have u0 : wr.cell? ⟨w2.heap.size, 0, none⟩ = some (.bool bv) := cells_of g3.out 0
          have u1 : wr.cell? ⟨w2.heap.size, 1, none⟩ = some (.slice sa sn sc) := cells_of g3.out 1
          have hsn := Lib.hid (take_snoc hend.out)
          have hwsz := hfW.size
          clear hown2 hne hzd
          go_wp2_with fail
          refine hfr9.out.mono ?_
          rintro e w8 ⟨rfl, hf8⟩
          go_wp2_with (at_builtin; refine wpList_append_lies _ rfl _ _ 56 (by rfl) _ 65 _ _ 1 16 Tryz.underlying56 hi9 hz0 hz1 hz2 rfl (by decide) _ c _ (by rfl) (World.ownsRow.alloc (ownsRow_fr hown3.out hf8) _) ⟨w8.heap.size, 0, none⟩ 1 1 [sv z] (by rfl) rfl (cell_one_newN _ _ _ _ (by simp)) (by simp [Value.oneCell']) (by decide) (by unfold maxLen; omega) (by omega) (by have := hf8.size; simp; omega) (w8.heap.size + 1) (by simp) ?_; intro gA capA wA hownA hgrowA hatA hltA)
          have hfA := ((hfW.trans hf8).alloc _).grown hgrowA (fun k e => (hown3.out.lt k e).1)
          go_roundg (ko - 1)
          case measure => omega
          case rel => exact ⟨c + 1, by go_num, by omega, hfA, by show _; rw [hsn.out, List.map_append]; exact hownA⟩
    · obtain rfl : c = d := by omega
      have d1 : decide (c < c) = false := decide_eq_false hc
      have hown9 := hown.out
      rw [List.take_of_length_le (by rw [hLd.out]; exact Nat.le_refl _), ← hLd.out] at hown9
      obtain ⟨a9, c9, rfl, he9, hc9, -⟩ := own_readS hown9
      clear hown9
      go_wp2_with fail
      go_ret
      exact ⟨a9, c9, rfl, he9, hc9, hfb.trans hf⟩
end Go.Proofs.YtphjfalibnnohaaGreatDoor

/- schismalaw43.all$1: the order; slices.SortFunc by it; slices.Equal at texts. -/
namespace Go.Proofs.YtphjfalibnnohaaGreatDoor
open Go.RowKit Go.Lib Go.Sort
attribute [local go_sem ↓] Go.wp_at_zero Go.wp_at_succ

set_option maxHeartbeats 400000 in
theorem Equal_txs (xs ys : List Int) (a b : Option Addr) (ca cb : Nat) (w : World) (hx : El w sv a xs) (hy : El w sv b ys) (_hl : xs.length ≤ 1000000000) (_hm : ys.length ≤ 1000000000) :
    Calls Tryz.prog 33 #[.slice a xs.length ca, .slice b ys.length cb] w fun e w' => e = .returned (.bool (decide (xs = ys))) ∧ Fr w w' := by
  by_cases hlen : xs.length = ys.length
  · have hne : ((xs.length : Int) != ys.length) = false := by rw [hlen]; simp
    have hlen := Lib.hid hlen
    rename_i hlen0
    clear hlen0
    go_enter Tryz.func33, Tryz.ntmps33
    go_wp2_with fail
    go_loopw [5, 13] (fun _ s13 wr => ∃ k : Nat, s13 = .int .i64 k ∧ k ≤ xs.length ∧ Fr w wr ∧ Hid (xs.take k = ys.take k)) (fun _ s13 _ => xs.length - (RowKit.intOf s13).toNat)
    case atStart => exact ⟨0, rfl, Nat.zero_le _, Fr.refl _, show _ = _ by simp⟩
    case round =>
      obtain ⟨k, rfl, hk, hf, hb⟩ := hrel
      by_cases hlt : k < xs.length
      · have hlt2 : k < ys.length := by rw [← hlen.out]; exact hlt
        obtain ⟨b1, o1, x, rfl, hbl1, hxk, hcell1⟩ := (hx.fr hf).at hlt
        obtain ⟨b2, o2, y, rfl, hbl2, hyk, hcell2⟩ := (hy.fr hf).at hlt2
        have hxk := Lib.hid hxk
        have hyk := Lib.hid hyk
        by_cases hxy : x = y
        · have hq : (!((tx x).toList == (tx y).toList)) = false := by rw [hxy]; simp
          have hxy := Lib.hid hxy
          rename_i hxy0; clear hxy0
          go_wp2_with fail
          go_quiet (fail)
          go_wp2_with fail
          go_roundw
          case rel => exact ⟨k + 1, by go_num, by omega, hf.drewN _, take_step hb.out hxk.out (by rw [hxy.out]; exact hyk.out)⟩
          case measure => simp [RowKit.intOf]; omega
        · have hq : (!((tx x).toList == (tx y).toList)) = true := by rw [tx_beqs, decide_eq_false hxy]; rfl
          have hfin := Lib.hid (show decide (xs = ys) = false from decide_eq_false (fun e => hxy (by have h1 := hxk.out; have h2 := hyk.out; rw [e, h2] at h1; injection h1 with h1; exact h1.symm)))
          clear hxy
          go_wp2_with fail
          go_quiet (fail)
          go_wp2_with fail
          go_ret
          exact ⟨ret_bool hfin.out.symm, hf.drewN _⟩
      · have hfin := Lib.hid (show decide (xs = ys) = true from decide_eq_true (by have h := hb.out; rw [List.take_of_length_le (by omega), List.take_of_length_le (by have := hlen.out; omega)] at h; exact h))
        go_wp2_with fail
        go_ret
        exact ⟨ret_bool hfin.out.symm, hf⟩
  · have hne : ((xs.length : Int) != ys.length) = true := by rw [bne_iff_ne]; omega
    have hfin := Lib.hid (show decide (xs = ys) = false from decide_eq_false (fun e => hlen (by rw [e])))
    clear hlen
    go_enter Tryz.func33, Tryz.ntmps33
    go_wp2_with fail
    go_ret
    exact ⟨ret_bool hfin.out.symm, Fr.refl _⟩

set_option maxRecDepth 100000 in
set_option maxHeartbeats 4000000 in
theorem orderR_any (s t : Int × List Int) (a b : Option Addr) (ca cb : Nat) (w : World) (hx : El w iv a s.2) (hy : El w iv b t.2) (hl : s.2.length ≤ 64) (hl2 : t.2.length ≤ 64) (hb : ∀ x, x ∈ s.2 → fitB x = true) (hb2 : ∀ x, x ∈ t.2 → fitB x = true) :
    Calls Tryz.prog 48 #[.agg #[.int .i64 s.1, .slice a s.2.length ca], .agg #[.int .i64 t.1, .slice b t.2.length cb]] w fun e w' => e = .returned (.int .i64 (ordS s t)) ∧ Gd w w' := by
  obtain ⟨i, xs⟩ := s
  obtain ⟨j, ys⟩ := t
  simp only at hx hy hl hl2 hb hb2 ⊢
  unfold ordS
  have k1 := fun W (hW : Fr w W) => cxR_any xs a ca W (hx.fr hW) hl hb
  have k2 := fun W (hW : Fr w W) => cxR_any ys b cb W (hy.fr hW) hl2 hb2
  have k3 := fun W (hW : Fr w W) => (slCompare_any xs ys a b ca cb W (hx.fr hW) (hy.fr hW) (by omega) (by omega)).mono fun e w' (h : e = .returned (.int .i64 (cmpR xs ys)) ∧ w' = W) => (⟨h.1, h.2.symm⟩ : e = .returned (.int .i64 (cmpR xs ys)) ∧ W = w')
  generalize cx xs = cxs at *
  generalize cx ys = cys at *
  generalize cmpR xs ys = c3 at *
  generalize xs.length = n at *
  generalize ys.length = m at *
  replace k1 := Lib.hid k1
  replace k2 := Lib.hid k2
  replace k3 := Lib.hid k3
  clear hx hy hb hb2
  go_enter Tryz.func48, Tryz.ntmps48
  go_wp2_with fail
  have g0 : Gd w ((w.alloc (.cells #[.int .i64 i, .slice a n ca] 42)).alloc (.cells #[.int .i64 j, .slice b m cb] 42)) := ((Gd.refl w).alloc _).alloc _
  have f0 : Fr w ((w.alloc (.cells #[.int .i64 i, .slice a n ca] 42)).alloc (.cells #[.int .i64 j, .slice b m cb] 42)) := ((Fr.refl w).alloc _).alloc _
  have p1 := new2a w (.int .i64 i) (.slice a n ca) 42
  have p2 := new2b w (.int .i64 i) (.slice a n ca) 42
  have p3 := new2a (w.alloc (.cells #[.int .i64 i, .slice a n ca] 42)) (.int .i64 j) (.slice b m cb) 42
  have p4 := new2b (w.alloc (.cells #[.int .i64 i, .slice a n ca] 42)) (.int .i64 j) (.slice b m cb) 42
  rw [show (w.alloc (.cells #[.int .i64 i, .slice a n ca] 42)).heap.size = w.heap.size + 1 by simp] at p3 p4
  have q1 := (Fr.refl (w.alloc (.cells #[.int .i64 i, .slice a n ca] 42))).alloc (.cells #[.int .i64 j, .slice b m cb] 42) |>.keep p1.1
  have q2 := (Fr.refl (w.alloc (.cells #[.int .i64 i, .slice a n ca] 42))).alloc (.cells #[.int .i64 j, .slice b m cb] 42) |>.keep p2.1
  have q3 := p3.1
  have q4 := p4.1
  clear p1 p2 p3 p4
  generalize ((w.alloc (.cells #[.int .i64 i, .slice a n ca] 42)).alloc (.cells #[.int .i64 j, .slice b m cb] 42)) = W at *
  have g0 : Gd w W := by assumption
  have hbs : w.heap.size + 1 < W.heap.size := World.block_lt_of_cell? W _ q3
  clear f0
  go_region_held3 (fun w' => w'.cell? ⟨w.heap.size, 0, none⟩ = some (.int .i64 i) ∧ w'.cell? ⟨w.heap.size, 1, none⟩ = some (.slice a n ca) ∧ w'.cell? ⟨w.heap.size + 1, 0, none⟩ = some (.int .i64 j) ∧ w'.cell? ⟨w.heap.size + 1, 1, none⟩ = some (.slice b m cb))
    (first | go_keep | (go_split_ands; refine ⟨?_, ?_, ?_, ?_⟩ <;> (refine Fr.keep (Gd.fr (by assumption)) ?_; assumption)))
    (first
      | (go_at_call 31; first | ((with_reducible refine (k1.out _ ?_).mono ?_); (refine Gd.fr ?_; repeat (with_reducible first | assumption | exact Gd.refl _ | refine Gd.drew ?_ | refine Gd.drewN ?_ _ | refine Gd.alloc ?_ _ | refine Gd.trans ?_ (by assumption))); rintro e w1 ⟨rfl, hf1⟩) | ((with_reducible refine (k2.out _ ?_).mono ?_); (refine Gd.fr ?_; repeat (with_reducible first | assumption | exact Gd.refl _ | refine Gd.drew ?_ | refine Gd.drewN ?_ _ | refine Gd.alloc ?_ _ | refine Gd.trans ?_ (by assumption))); rintro e w1 ⟨rfl, hf1⟩))
      | (go_at_call 51; (with_reducible refine (k3.out _ ?_).mono ?_); (refine Gd.fr ?_; repeat (with_reducible first | assumption | exact Gd.refl _ | refine Gd.drew ?_ | refine Gd.drewN ?_ _ | refine Gd.alloc ?_ _ | refine Gd.trans ?_ (by assumption))); rintro e w1 ⟨rfl, rfl⟩)
      | (go_at_call 50; (with_reducible refine (Compare_int _ _ _).mono ?_); rintro e w1 ⟨rfl, rfl⟩)
      | (go_at_call 49; (with_reducible refine (Or3 _ _ _ _).mono ?_); rintro e w1 ⟨rfl, rfl⟩))
  all_goals
    go_wp2_with fail
    go_ret
    exact ⟨rfl, by repeat (with_reducible first | assumption | exact Gd.refl _ | refine Gd.drew ?_ | refine Gd.drewN ?_ _ | refine Gd.alloc ?_ _ | refine Gd.trans ?_ (by assumption))⟩
theorem enters_orderR : ∀ args w, (callFunc 48 args).run Tryz.prog w = .ok (.enter 48 args) w := enters_of Tryz.func48 (by kernel_rfl) rfl

set_option maxRecDepth 100000 in
set_option maxHeartbeats 1000000 in
theorem SortFunc_lw (base g cap : Nat) (K : List BX) (W : World) (hown : W.ownsRow base 42 2 (.slice (some ⟨g, 0, none⟩) K.length cap) K.length (flat2 (K.map BX.enc2))) (hrow : ∀ x, x ∈ K → RowAt W x) (hnd : (K.map stripX).Nodup)
    (hl : ∀ x, x ∈ K → x.cs.length ≤ 64) (hf : ∀ x, x ∈ K → ∀ c, c ∈ x.cs → fitB c = true) (hK : K ≠ []) (hK2 : K.length ≤ 1000001) :
    Calls Tryz.prog 47 #[.slice (some ⟨g, 0, none⟩) K.length cap, .func (.func 48) #[] #[]] W fun e W' => e = .returned (.tuple #[]) ∧
      ∃ K' : List BX, K'.map stripX = sortS (K.map stripX) ∧ K'.Perm K ∧ Fx (· = g) W W' ∧ W'.ownsRow base 42 2 (.slice (some ⟨g, 0, none⟩) K.length cap) K.length (flat2 (K'.map BX.enc2)) := by
  obtain ⟨x0, hx0⟩ : ∃ x0, x0 ∈ K := by
    cases K with
    | nil => exact absurd rfl hK
    | cons x l => exact ⟨x, List.mem_cons_self ..⟩
  haveI : Inhabited { x : BX // x ∈ K } := ⟨⟨x0, hx0⟩⟩
  obtain ⟨-, -, hgl, -, hcells⟩ := ownsRow_some hown
  have hfl : ∀ (d : Array { x : BX // x ∈ K }), (flatK (fun x : { x : BX // x ∈ K } => [x.1.enc2.1, x.1.enc2.2]) 2 d).toList = flat2 (d.toList.map fun x => x.1.enc2) := fun d => flatK_flat2 (fun x : { x : BX // x ∈ K } => x.1.enc2) d
  have hat : (K.attach.toArray.toList.map fun x => x.1.enc2) = K.map BX.enc2 := by
    have : (fun x : { x : BX // x ∈ K } => x.1.enc2) = BX.enc2 ∘ Subtype.val := rfl
    rw [this, ← List.map_map, List.attach_map_subtype_val]
  have hH : HoldsK (fun x : { x : BX // x ∈ K } => [x.1.enc2.1, x.1.enc2.2]) 2 W g 0 K.attach.toArray := by
    intro j hj
    have h1 := hfl K.attach.toArray
    rw [hat] at h1
    have h2 : (flat2 (K.map BX.enc2))[j]? = some (flatK (fun x : { x : BX // x ∈ K } => [x.1.enc2.1, x.1.enc2.2]) 2 K.attach.toArray)[j]! := by
      rw [← h1, Array.getElem?_toList, Array.getElem?_eq_getElem hj, getElem!_pos _ j hj]
    have h3 := hcells j _ h2
    rw [Nat.zero_add]
    exact h3
  have hcmp : CmpLays Tryz.prog 48 #[] (fun x : { x : BX // x ∈ K } => [x.1.enc2.1, x.1.enc2.2]) 2 (fun x y => cfB x.1 y.1) g 0 K.attach.toArray.size W := fun m os dk hs x y => by
    have hfx : Fx (· = g) W (sortWorldK (fun x : { x : BX // x ∈ K } => [x.1.enc2.1, x.1.enc2.2]) 2 W g 0 m dk os) := fx_put _
    have hel : ∀ z : BX, z ∈ K → El (sortWorldK (fun x : { x : BX // x ∈ K } => [x.1.enc2.1, x.1.enc2.2]) 2 W g 0 m dk os) iv (some ⟨z.g, 0, none⟩) z.cs := fun z hz => (hrow z hz).2.fx hfx (fun e => by
      have := (hrow z hz).ne hown
      exact this (by simp [Value.ownBlock, show z.g = g from e]))
    exact orderR_any (stI (stripX x.1)) (stI (stripX y.1)) (some ⟨x.1.g, 0, none⟩) (some ⟨y.1.g, 0, none⟩) x.1.c y.1.c _ (hel x.1 x.2) (hel y.1 y.2) (hl x.1 x.2) (hl y.1 y.2) (hf x.1 x.2) (hf y.1 y.2)
  have hO : SWO (ltOf fun x y : { x : BX // x ∈ K } => cfB x.1 y.1) := ⟨fun x => swoS.irrefl _, fun x y z => swoS.trans _ _ _, fun x y z => swoS.ntrans _ _ _⟩
  have hinj : ∀ x y : { x : BX // x ∈ K }, stripX x.1 = stripX y.1 → x = y := fun x y e => by
    obtain ⟨x, hx⟩ := x; obtain ⟨y, hy⟩ := y
    obtain ⟨i, hi⟩ := List.getElem?_of_mem hx
    obtain ⟨j, hj⟩ := List.getElem?_of_mem hy
    have e2 : (K.map stripX)[i]? = (K.map stripX)[j]? := by rw [List.getElem?_map, List.getElem?_map, hi, hj]; simp only [Option.map_some]; rw [e]
    have hij := (List.getElem?_inj (by rw [List.length_map]; exact (List.getElem?_eq_some_iff.1 hi).1) hnd).1 e2
    subst hij
    rw [hi] at hj
    injection hj with hj
    subst hj; rfl
  have hT : ∀ x y : { x : BX // x ∈ K }, (ltOf fun x y : { x : BX // x ∈ K } => cfB x.1 y.1) x y = false → (ltOf fun x y : { x : BX // x ∈ K } => cfB x.1 y.1) y x = false → x = y := fun x y h1 h2 => by
    unfold ltOf cfB at *
    have a : ¬ ordS (stI (stripX x.1)) (stI (stripX y.1)) < 0 := of_decide_eq_false h1
    have b : ¬ ordS (stI (stripX y.1)) (stI (stripX x.1)) < 0 := of_decide_eq_false h2
    have c := ordS_neg (stI (stripX x.1)) (stI (stripX y.1))
    exact hinj x y (stI_inj (ordS_eq (by omega)))
  have hcon := AnyQ.slices_SortFunc_total Tryz.sortSp 2 Tryz.isAgg42 Tryz.sizeOf42 (fun x : { x : BX // x ∈ K } => [x.1.enc2.1, x.1.enc2.2]) (fun _ => rfl) (fun x v hv => by
    simp at hv; rcases hv with rfl | rfl <;> rfl) (fun x y => cfB x.1 y.1) hO 48 #[] g 0 cap K.attach.toArray W enters_orderR hcmp hH hgl (by rw [List.size_toArray, List.length_attach]; omega) hT
  rw [show K.attach.toArray.size = K.length by simp] at hcon
  refine hcon.mono ?_
  rintro e W' ⟨rfl, n, os, rfl⟩
  obtain ⟨D, hD⟩ : ∃ D, D = (K.attach.mergeSort fun x y => !(ltOf fun x y : { x : BX // x ∈ K } => cfB x.1 y.1) y x) := ⟨_, rfl⟩
  have hDp : D.Perm K.attach := by rw [hD]; exact List.mergeSort_perm _ _
  refine ⟨rfl, D.map Subtype.val, ?_, ?_, fx_put _, ?_⟩
  · refine sortS_eq ?_ ?_
    · rw [List.map_map, List.pairwise_map, hD]
      exact List.pairwise_mergeSort (le := fun x y => !(ltOf fun x y : { x : BX // x ∈ K } => cfB x.1 y.1) y x) (fun a b c h k => leS_trans (stripX a.1) (stripX b.1) (stripX c.1) h k) (fun a b => leS_total (stripX a.1) (stripX b.1)) _
    · have := (hDp.map Subtype.val).map stripX
      rwa [List.attach_map_subtype_val] at this
  · have := hDp.map Subtype.val
    rwa [List.attach_map_subtype_val] at this
  · have h1 := hfl D.toArray
    have h2 : D.toArray.toList.map (fun x => x.1.enc2) = (D.map Subtype.val).map BX.enc2 := by rw [List.map_map]; rfl
    rw [h2] at h1
    have h3 := ownsRow_put (n := n) (os := os) (ys := flat2 ((D.map Subtype.val).map BX.enc2)) hown (by rw [flat2_length, flat2_length, List.length_map, List.length_map, List.length_map, hDp.length_eq, List.length_attach])
    rw [← h1] at h3
    simp only [Array.toArray_toList] at h3
    rw [hfl] at h3
    rw [h2] at h3
    rw [hD] at h3 ⊢
    exact h3
end Go.Proofs.YtphjfalibnnohaaGreatDoor

/- The box of counts as the law builds it: plain lists. -/
namespace Go.Proofs.YtphjfalibnnohaaGreatDoor
open Go.RowKit Go.Lib

def modelC (m : Nat) : Nat → List (List Int)
  | 0 => [[]]
  | n + 1 => (modelC m n).flatMap fun x => (spanC m).map fun k => x ++ [k]
theorem modelC_rev (m : Nat) : ∀ n, modelC m n = (boxC m n).map List.reverse
  | 0 => rfl
  | n + 1 => by
    rw [modelC, modelC_rev m n, boxC, List.flatMap_map, List.map_flatMap]
    congr 1
    funext t
    rw [List.map_map]
    refine List.map_congr_left fun k _ => ?_
    simp
theorem modelC_size (m n : Nat) : (modelC m n).length = (2 * m + 1) ^ n := by rw [modelC_rev, List.length_map, boxC_size]
theorem span_mem {m : Nat} {c : Int} : c ∈ spanC m ↔ -(m : Int) ≤ c ∧ c ≤ m := by
  unfold spanC
  rw [List.mem_map]
  constructor
  · rintro ⟨k, hk, rfl⟩; have := List.mem_range.1 hk; omega
  · intro h; exact ⟨(c + m).toNat, List.mem_range.2 (by omega), by omega⟩
theorem span_len (m : Nat) : (spanC m).length = 2 * m + 1 := by simp [spanC]
theorem span_get {m q : Nat} (h : q < 2 * m + 1) : (spanC m)[q]? = some ((q : Int) - m) := by
  unfold spanC
  rw [List.getElem?_map, List.getElem?_range h]; rfl
theorem box_mem {m : Nat} : ∀ {n : Nat} {t : List Int}, t ∈ boxC m n ↔ t.length = n ∧ ∀ c, c ∈ t → -(m : Int) ≤ c ∧ c ≤ m := fun {n t} => by
  refine ⟨fun h => ⟨boxC_len m n t h, boxC_mem m n t h⟩, ?_⟩
  induction t generalizing n with
  | nil =>
    rintro ⟨h, -⟩
    obtain rfl : n = 0 := h.symm
    simp [boxC]
  | cons c u ih =>
    rintro ⟨h, k⟩
    obtain ⟨n, rfl⟩ : ∃ n', n = n' + 1 := ⟨u.length, h.symm⟩
    unfold boxC
    exact List.mem_flatMap.2 ⟨u, ih ⟨by simpa using h, fun c hc => k c (by simp [hc])⟩, List.mem_map.2 ⟨c, span_mem.2 (k c (by simp)), rfl⟩⟩
theorem model_mem {m n : Nat} {t : List Int} : t ∈ modelC m n ↔ t.length = n ∧ ∀ c, c ∈ t → -(m : Int) ≤ c ∧ c ≤ m := by
  rw [modelC_rev, List.mem_map]
  constructor
  · rintro ⟨u, hu, rfl⟩
    obtain ⟨h1, h2⟩ := box_mem.1 hu
    exact ⟨by rw [List.length_reverse]; exact h1, fun c hc => h2 c (List.mem_reverse.1 hc)⟩
  · rintro ⟨h1, h2⟩
    exact ⟨t.reverse, box_mem.2 ⟨by rw [List.length_reverse]; exact h1, fun c hc => h2 c (List.mem_reverse.1 hc)⟩, List.reverse_reverse t⟩
theorem modelC_perm (m n : Nat) : (modelC m n).Perm (boxC m n) := by
  refine (List.perm_ext_iff_of_nodup ?_ (boxC_nodup m n)).2 (fun t => by rw [model_mem, box_mem])
  rw [modelC_rev, List.nodup_iff_pairwise_ne, List.pairwise_map]
  exact (List.nodup_iff_pairwise_ne.1 (boxC_nodup m n)).imp fun {a b} h e => h (by rw [← List.reverse_reverse a, e, List.reverse_reverse])
def modelL (m n N : Nat) : List (Nat × List Int) := (List.range N).flatMap fun i => (modelC m n).map fun cs => (i, cs)
theorem modelL_perm (m n N : Nat) : (modelL m n N).Perm (boxL m n N) := by
  unfold modelL boxL
  induction List.range N with
  | nil => exact .nil
  | cons i l ih =>
    rw [List.flatMap_cons, List.flatMap_cons]
    exact ((modelC_perm m n).map _).append ih
theorem sortS_perm_eq {l m : List (Nat × List Int)} (h : l.Perm m) : sortS l = sortS m := sortS_eq (sortS_sorted l) ((sortS_perm l).trans h)
theorem modelL_sort (m n N : Nat) (p : Nat × List Int → Bool) : sortS ((modelL m n N).filter p) = sortS ((boxL m n N).filter p) := sortS_perm_eq ((modelL_perm m n N).filter p)
theorem modelL_nodup (m n N : Nat) : (modelL m n N).Nodup := (modelL_perm m n N).nodup_iff.2 (boxL_nodup m n N)
theorem modelL_mem {m n N : Nat} {s : Nat × List Int} (h : s ∈ modelL m n N) : s.1 < N ∧ s.2.length = n ∧ ∀ c, c ∈ s.2 → -(m : Int) ≤ c ∧ c ≤ m := boxL_mem ((modelL_perm m n N).mem_iff.1 h)
theorem modelL_size (m n N : Nat) : (modelL m n N).length = N * (2 * m + 1) ^ n := by rw [(modelL_perm m n N).length_eq, boxL_size]
theorem flat_take {α β : Type} (f : α → List β) {l : List α} {t : Nat} {x : α} (h : l[t]? = some x) : (l.take (t + 1)).flatMap f = (l.take t).flatMap f ++ f x := by
  rw [List.take_add_one, h, List.flatMap_append]; simp
end Go.Proofs.YtphjfalibnnohaaGreatDoor

/- schismalaw43.all. -/
namespace Go.Proofs.YtphjfalibnnohaaGreatDoor
open Go.RowKit Go.Lib
attribute [local go_sem ↓] Go.wp_at_zero Go.wp_at_succ

theorem infoRw : (Tryz.prog.info? 33).map (fun i => (i.zero, i.size, i.bytes)) = some (some (.slice none 0 0), 1, 24) := by kernel_rfl
/-- a row, as it lies in a slice of rows -/
def BX.rv (x : BX) : Value := .slice (some ⟨x.g, 0, none⟩) x.cs.length x.c
theorem RowAt.neR {W : World} {x : BX} (h : RowAt W x) {base : Nat} {size n : Nat} {v : Value} {xs : List Value} (ho : W.ownsRow base 33 size v n xs) : v.ownBlock ≠ some x.g := by
  intro e
  rcases ho.2 with ⟨rfl, _⟩ | ⟨g', cap, cur, rfl, _, hh, _⟩
  · simp [Value.ownBlock] at e
  · have e2 : g' = x.g := by simpa [Value.ownBlock] using e
    subst e2
    obtain ⟨⟨cur2, hc⟩, _⟩ := h
    rw [hh] at hc
    injection hc with hc
    injection hc with _ hc
    exact absurd hc (by decide)
/-- rows of counts that the call has made -/
structure CntI (W : World) (base rb : Nat) (v : Value) (xs : List BX) (L : List (List Int)) : Prop where
  own : W.ownsRow base 33 1 v xs.length (xs.map BX.rv)
  row : ∀ x, x ∈ xs → rb ≤ x.g ∧ RowAt W x
  eq : xs.map BX.cs = L
theorem CntI.nil (W : World) (base rb : Nat) : CntI W base rb (.slice none 0 0) [] [] := ⟨World.ownsRow_nil _ _ _ _, fun x hx => by simp at hx, rfl⟩
theorem CntI.fr {W W' : World} {base rb : Nat} {v : Value} {xs : List BX} {L : List (List Int)} (h : CntI W base rb v xs L) (k : Fr W W') : CntI W' base rb v xs L :=
  ⟨ownsRow_fr h.own k, fun x hx => ⟨(h.row x hx).1, (h.row x hx).2.fr k⟩, h.eq⟩
theorem CntI.len {W : World} {base rb : Nat} {v : Value} {xs : List BX} {L : List (List Int)} (h : CntI W base rb v xs L) : xs.length = L.length := by rw [← h.eq, List.length_map]
theorem CntI.at {W : World} {base rb : Nat} {v : Value} {xs : List BX} {L : List (List Int)} (h : CntI W base rb v xs L) {t : Nat} (ht : t < xs.length) :
    ∃ g cap x, v = .slice (some ⟨g, 0, none⟩) xs.length cap ∧ xs[t]? = some x ∧ W.cell? ⟨g, t, none⟩ = some x.rv ∧ (rb ≤ x.g ∧ RowAt W x) ∧ L[t]? = some x.cs := by
  obtain ⟨g, cap, rfl⟩ := ownsRow_pos h.own (by omega)
  obtain ⟨-, -, -, -, h5⟩ := ownsRow_some h.own
  have hx := List.getElem?_eq_getElem ht
  refine ⟨g, cap, _, rfl, hx, (h5 t _ (by rw [List.getElem?_map, hx]; rfl)).1, h.row _ (List.getElem_mem ht), ?_⟩
  rw [← h.eq, List.getElem?_map, hx]; rfl
theorem CntI.push {W W' : World} {base rb : Nat} {v : Value} {xs : List BX} {L : List (List Int)} {x : BX} {gb cap : Nat} {o : Obj} (h : CntI W base rb v xs L) (hrb : rb ≤ x.g) (hx : RowAt W x)
    (hown : W'.ownsRow base 33 1 (.slice (some ⟨gb, 0, none⟩) (xs.length + 1) cap) (xs.length + 1) (xs.map BX.rv ++ [x.rv])) (hg : (W.alloc o).grownBy W' v.ownBlock) : CntI W' base rb (.slice (some ⟨gb, 0, none⟩) (xs.length + 1) cap) (xs ++ [x]) (L ++ [x.cs]) := by
  have hfa : Fr W (W.alloc o) := (Fr.refl W).alloc o
  have key : ∀ z, RowAt W z → RowAt W' z := fun z hz => (hz.fr hfa).fx (Fx.of_grown hg) (fun e => hz.neR h.own e)
  refine ⟨by rw [List.length_append, List.map_append]; exact hown, fun z hz => ?_, by rw [List.map_append, h.eq]; rfl⟩
  rcases List.mem_append.1 hz with hz | hz
  · exact ⟨(h.row z hz).1, key z (h.row z hz).2⟩
  · simp at hz; subst hz; exact ⟨hrb, key _ hx⟩

theorem owns_rowAt {W : World} {base g n cap i : Nat} {xs : List Int} (h : W.ownsRow base 3 1 (.slice (some ⟨g, 0, none⟩) n cap) n (xs.map iv)) : RowAt W ⟨i, xs, g, cap⟩ := by
  obtain ⟨-, -, h2, -, h4⟩ := ownsRow_some h
  refine ⟨?_, .inr ⟨g, 0, rfl, h2, fun i x hx => ?_⟩⟩
  · rcases h.2 with ⟨h1, _⟩ | ⟨g', cap', cur, hv, _, hh, _⟩
    · cases h1
    · injection hv with hv; injection hv with hv; injection hv with hv
      subst hv
      exact ⟨_, hh⟩
  · rw [Nat.zero_add]
    exact (h4 i (iv x) (by rw [List.getElem?_map, hx]; rfl)).1
/-- a row with one more count -/
def extC (m : Nat) (x : List Int) : List (List Int) := (spanC m).map fun k => x ++ [k]
theorem extC_take {m q : Nat} (x : List Int) (h : q < 2 * m + 1) : ((spanC m).take (q + 1)).map (fun k => x ++ [k]) = ((spanC m).take q).map (fun k => x ++ [k]) ++ [x ++ [(q : Int) - m]] := by
  rw [List.take_add_one, span_get h]; simp

theorem modelL_succ (m n i : Nat) : modelL m n (i + 1) = modelL m n i ++ (modelC m n).map fun cs => (i, cs) := by
  unfold modelL
  rw [List.range_succ, List.flatMap_append]; simp
/-- spellings that the call has listed -/
structure OutI (W : World) (base rb : Nat) (v : Value) (K : List BX) (L : List (Nat × List Int)) : Prop where
  own : W.ownsRow base 42 2 v K.length (flat2 (K.map BX.enc2))
  row : ∀ x, x ∈ K → rb ≤ x.g ∧ RowAt W x
  eq : K.map stripX = L
  emp : K = [] → v = .slice none 0 0
theorem OutI.nil (W : World) (base rb : Nat) : OutI W base rb (.slice none 0 0) [] [] := ⟨World.ownsRow_nil _ _ _ _, fun x hx => by simp at hx, rfl, fun _ => rfl⟩
theorem OutI.fr {W W' : World} {base rb : Nat} {v : Value} {K : List BX} {L : List (Nat × List Int)} (h : OutI W base rb v K L) (k : Fr W W') : OutI W' base rb v K L :=
  ⟨ownsRow_fr h.own k, fun x hx => ⟨(h.row x hx).1, (h.row x hx).2.fr k⟩, h.eq, h.emp⟩
theorem OutI.push {W W' : World} {base rb : Nat} {v : Value} {K : List BX} {L : List (Nat × List Int)} {x : BX} {gb cap : Nat} {o : Obj} (h : OutI W base rb v K L) (hb : rb ≤ x.g) (hx : RowAt W x)
    (hown : W'.ownsRow base 42 2 (.slice (some ⟨gb, 0, none⟩) (K.length + 1) cap) (K.length + 1) (flat2 (K.map BX.enc2) ++ [x.enc2.1, x.enc2.2])) (hg : (W.alloc o).grownBy W' v.ownBlock) : OutI W' base rb (.slice (some ⟨gb, 0, none⟩) (K.length + 1) cap) (K ++ [x]) (L ++ [stripX x]) := by
  have hfa : Fr W (W.alloc o) := (Fr.refl W).alloc o
  have key : ∀ z, RowAt W z → RowAt W' z := fun z hz => (hz.fr hfa).fx (Fx.of_grown hg) (fun e => hz.ne h.own e)
  refine ⟨by rw [List.length_append, List.map_append, flat2_append]; exact hown, fun z hz => ?_, by rw [List.map_append, h.eq]; rfl, fun e => by simp at e⟩
  rcases List.mem_append.1 hz with hz | hz
  · exact ⟨(h.row z hz).1, key z (h.row z hz).2⟩
  · simp at hz; subst hz; exact ⟨hb, key _ hx⟩

set_option maxRecDepth 100000 in
set_option maxHeartbeats 4000000 in
theorem all_law (d : Nat) (aN aA : Option Addr) (cN cA : Nat) (N A : List Sy) (R : List Int) (ra : Option Addr) (rc m : Nat) (w : World) (hG : G w) (hn : NotIs w aN aA cA N A) (hok : NotOk d N A) (hR : El w sv ra R) (hRl : R.length ≤ 1000000) (hm : m ≤ 20000) (hP : (2 * m + 1) ^ A.length ≤ 1000000) (hbox : N.length * (2 * m + 1) ^ A.length ≤ 1000000) :
    Calls Tryz.prog 21 #[.agg #[.slice aN N.length cN, .slice aA A.length cA], .slice ra R.length rc, .int .i64 m] w (AllRet w (sortS ((boxL m A.length N.length).filter fun s => decide (sumS N A s = R)))) := by
  obtain ⟨i0, hi, hz0, hz1, hz2⟩ := info_parts infoInt
  obtain ⟨i1, ji, jz0, jz1, jz2⟩ := info_parts infoRw
  obtain ⟨i2, ki, kz0, kz1, kz2⟩ := info_parts infoSp
  have hn60 := hok.n60
  have ha6 := hok.a6
  obtain ⟨nN, hnN⟩ : ∃ nN, nN = N.length := ⟨_, rfl⟩
  obtain ⟨nA, hnA⟩ : ∃ nA, nA = A.length := ⟨_, rfl⟩
  obtain ⟨nR, hnR⟩ : ∃ nR, nR = R.length := ⟨_, rfl⟩
  rw [← hnN, ← hnA] at hbox
  rw [← hnA] at hP ha6
  rw [← hnN] at hn60
  rw [← hnR] at hRl
  rw [← hnN, ← hnA, ← hnR]
  replace hnN := Lib.hid hnN
  replace hnA := Lib.hid hnA
  replace hnR := Lib.hid hnR
  replace hn := Lib.hid hn
  replace hok := Lib.hid hok
  replace hR := Lib.hid hR
  replace hP := Lib.hid hP
  replace hbox := Lib.hid hbox
  obtain ⟨wb, hwb⟩ : ∃ wb, wb = alls w [(.cells #[.slice aN nN cN, .slice aA nA cA] 30)] := ⟨_, rfl⟩
  have g0 : wb.heap[w.heap.size]? = some (.cells #[.slice aN nN cN, .slice aA nA cA] 30 (0, 0)) := by rw [hwb]; exact alls_get _ w 0 _ rfl
  have hfb : Fr w wb := by rw [hwb]; exact alls_fr _ w
  have b0 : wb.cell? ⟨w.heap.size, 0, none⟩ = some (.slice aN nN cN) := cells_of g0 0
  have b1 : wb.cell? ⟨w.heap.size, 1, none⟩ = some (.slice aA nA cA) := cells_of g0 1
  clear g0
  replace hfb := Lib.hid hfb
  have hb0 := Lib.hid b0
  have hb1 := Lib.hid b1
  go_enter Tryz.func21, Tryz.ntmps21
  go_upto_region 1 with (fail)
  change Code.wp _ _ _ _ (alls w [(.cells #[.slice aN nN cN, .slice aA nA cA] 30)])
  rw [← hwb]
  clear hwb
  go_upto_region 2 with (fail)
  obtain ⟨w1, hw1⟩ : ∃ w1, w1 = alls wb [(.cells #[] 3), (.cells #[.slice (some ⟨wb.heap.size, 0, none⟩) 0 0] 33)] := ⟨_, rfl⟩
  have g0 : w1.heap[wb.heap.size]? = some (.cells #[] 3 (0, 0)) := by rw [hw1]; exact alls_get _ wb 0 _ rfl
  have g1 : w1.heap[wb.heap.size + 1]? = some (.cells #[.slice (some ⟨wb.heap.size, 0, none⟩) 0 0] 33 (0, 0)) := by rw [hw1]; exact alls_get _ wb 1 _ rfl
  have hf1 : Fr wb w1 := by rw [hw1]; exact alls_fr _ wb
  change Code.wp _ _ _ _ (alls wb [(.cells #[] 3), (.cells #[.slice (some ⟨wb.heap.size, 0, none⟩) 0 0] 33)])
  rw [← hw1]
  clear hw1
  replace b1 := hf1.keep b1
  have hC0 : CntI w1 wb.heap.size w.heap.size (.slice (some ⟨wb.heap.size + 1, 0, none⟩) 1 1) [⟨0, [], wb.heap.size, 0⟩] (modelC m 0) :=
    ⟨owns_of_whole (xs := [.slice (some ⟨wb.heap.size, 0, none⟩) 0 0]) g1 (by omega) rfl (by decide), fun x hx => by simp at hx; subst hx; exact ⟨hfb.out.size, ⟨_, g0⟩, .inl rfl⟩, rfl⟩
  replace hC0 := Lib.hid hC0
  clear g0 g1
  go_wp2_with fail
  go_loopg [7, 22] nA (fun gk s7 s22 wr => ∃ (j : Nat) (xs : List BX), s22 = .int .i64 j ∧ j + gk = nA ∧ Fr wb wr ∧ Hid (CntI wr wb.heap.size w.heap.size s7 xs (modelC m j)))
  case atStart => exact ⟨0, _, rfl, by omega, hf1, hC0⟩
  case round =>
    clear hC0 hf1 b0 b1
    obtain ⟨j, xs, rfl, hjk, hf, hC⟩ := hrel
    by_cases hj : j < nA
    · have dj : decide (j < nA) = true := decide_eq_true hj
      obtain ⟨px, hpx⟩ : ∃ px, px = xs.length := ⟨_, rfl⟩
      have hxl := hC.out.len
      rw [modelC_size, ← hpx] at hxl
      have hpx1 : 1 ≤ px := by rw [hxl]; exact Nat.pow_pos (by omega)
      have hpx2 : px * (2 * m + 1) ≤ 1000000 := by
        rw [hxl, ← Nat.pow_succ]
        exact Nat.le_trans (Nat.pow_le_pow_right (by omega) (by omega)) hP.out
      obtain ⟨g7, cap7, -, e7, -, -, -, -⟩ := hC.out.at (t := 0) (by omega)
      subst e7
      rw [← hpx]
      replace hpx := Lib.hid hpx
      replace hxl := Lib.hid hxl
      have hpx3 : px ≤ 1000000 := by
        have : px * 1 ≤ px * (2 * m + 1) := Nat.mul_le_mul_left _ (by omega)
        omega
      obtain ⟨ko, rfl⟩ : ∃ ko : Nat, ko = gk := ⟨_, rfl⟩
      obtain ⟨wo, rfl⟩ : ∃ wo : World, wo = wr := ⟨_, rfl⟩
      go_wp2_with fail
      go_loopg [8, 26] px (fun gk s8 s26 wr => ∃ (t : Nat) (ys : List BX), s26 = .int .i64 t ∧ t + gk = px ∧ Fr wo wr ∧ Hid (CntI wr wo.heap.size w.heap.size s8 ys (((modelC m j).take t).flatMap (extC m))))
      case atStart => exact ⟨0, [], rfl, by omega, Fr.refl _, CntI.nil _ _ _⟩
      case round =>
        obtain ⟨t, ys, rfl, htk, hf2, hCy⟩ := hrel
        by_cases ht : t < px
        · have dt : decide (t < px) = true := decide_eq_true ht
          obtain ⟨g9, cap9, x, e9, hxt, hxc, ⟨-, hxr⟩, hxL⟩ := hC.out.at (t := t) (by rw [← hpx.out]; exact ht)
          replace hxc := hf2.keep hxc
          injection e9 with e9 e9' e9''
          injection e9 with e9
          injection e9 with e9
          subst e9
          clear e9' e9''
          have hxl9 := (model_mem.1 (List.mem_of_getElem? hxL)).1
          have hxe := hxr.2
          unfold BX.rv at hxc
          rw [hxl9] at hxc
          have hfl := Lib.hid (flat_take (extC m) hxL)
          have hclone := fun W (hW : Fr wo W) => Clone_row x.g 0 x.c x.cs W (by omega) (fun i y hy => by
            rcases hxe with h | ⟨b, o, hb, _, hc⟩
            · rw [h] at hy; simp at hy
            · injection hb with hb; injection hb with h1 h2
              subst h1; subst h2
              exact hW.keep (hc i y hy))
          rw [hxl9] at hclone
          generalize x.cs = xc at *
          replace hclone := Lib.hid hclone
          replace hxl9 := Lib.hid hxl9
          replace hxL := Lib.hid hxL
          replace hxt := Lib.hid hxt
          replace hxr := Lib.hid hxr
          replace hxe := Lib.hid hxe
          have y0 : (0 : Int) ≤ (t : Int) := by omega
          have hyl : ys.length ≤ t * (2 * m + 1) + 0 := by
            have h1 := hCy.out.len
            have h2 : ∀ T : List (List Int), (T.flatMap (extC m)).length = T.length * (2 * m + 1) := fun T => by
              induction T with
              | nil => simp
              | cons a T ih => rw [List.flatMap_cons, List.length_append, ih, List.length_cons]; simp [extC, span_len, Nat.succ_mul]; omega
            rw [h2, List.length_take] at h1
            have h3 : min t (modelC m j).length * (2 * m + 1) ≤ t * (2 * m + 1) := Nat.mul_le_mul_right _ (Nat.min_le_left _ _)
            omega
          replace hyl := Lib.hid hyl
          obtain ⟨kt, rfl⟩ : ∃ kt : Nat, kt = gk := ⟨_, rfl⟩
          obtain ⟨wt, rfl⟩ : ∃ wt : World, wt = wr := ⟨_, rfl⟩
          go_wp2_with fail
          go_loopg [8, 11] (2 * m + 1) (fun gk s8 s11 wr => ∃ (q : Nat) (zs : List BX), s11 = .int .i64 ((q : Int) - (m : Int)) ∧ q + gk = 2 * m + 1 ∧ Fr wo wr ∧ zs.length ≤ t * (2 * m + 1) + q ∧ Hid (CntI wr wo.heap.size w.heap.size s8 zs (((modelC m j).take t).flatMap (extC m) ++ ((spanC m).take q).map fun k => xc ++ [k])))
          case atStart => exact ⟨0, ys, by rw [show ((0 : Nat) : Int) - (m : Int) = -(m : Int) by omega], by omega, hf2, hyl.out, by rw [List.take_zero, List.map_nil, List.append_nil]; exact hCy⟩
          case round =>
            clear hCy
            obtain ⟨q, zs, rfl, hqk, hf3, hzl, hCz⟩ := hrel
            by_cases hq : q < 2 * m + 1
            · have dq : decide ((q : Int) - (m : Int) ≤ (m : Int)) = true := decide_eq_true (by omega)
              have hcl := Lib.hid (hclone.out wr hf3)
              have hzl2 : zs.length ≤ 1000000 := by
                have h9 : t * (2 * m + 1) + (2 * m + 1) ≤ px * (2 * m + 1) := by
                  have := Nat.mul_le_mul_right (2 * m + 1) (show t + 1 ≤ px by omega)
                  rw [Nat.add_mul, Nat.one_mul] at this; exact this
                omega
              have hsz3 := hf3.size
              have k0 : -(m : Int) ≤ (q : Int) - (m : Int) := by omega
              have k1 : (q : Int) - (m : Int) ≤ (m : Int) := by omega
              have hext := Lib.hid (extC_take xc hq)
              generalize hkk : (q : Int) - (m : Int) = kk at *
              replace hkk := Lib.hid hkk
              go_wp2_with fail
              refine hcl.out.mono ?_
              rintro e w5 ⟨g5, c5, rfl, hf5, hown5⟩
              rw [hxl9.out] at hown5 ⊢
              have hg5 := ownsRow_own_ge hown5 g5 rfl
              have hzown := Lib.hid (ownsRow_fr hCz.out.own hf5)
              go_wp2_with (first
                | (at_builtin; refine wpList_append_lies _ rfl _ _ 33 (by rfl) _ 3 _ _ 1 8 Tryz.underlying33 hi hz0 hz1 hz2 rfl (by decide) _ j _ (by rfl) (World.ownsRow.alloc hown5 _) ⟨w5.heap.size, 0, none⟩ 1 1 [iv kk] (by rfl) rfl (cell_one_newN _ _ _ _ (by simp)) (by simp [Value.oneCell']) (by decide) (by unfold maxLen; omega) (by omega) (by have := hf5.size; simp; omega) (w5.heap.size + 1) (by simp) ?_; intro gR capR wR hownR hgrowR hatR hltR; have hfR : Fr wr wR := (hf5.alloc _).grown hgrowR (fun k e => by have h9 : g5 = k := Option.some.inj e; omega))
                | (at_builtin; refine wpList_append_lies _ rfl _ _ 76 (by rfl) _ 33 _ _ 1 24 Tryz.underlying76 ji jz0 jz1 jz2 rfl (by decide) _ zs.length _ (by rfl) (World.ownsRow.alloc (ownsRow_fr hCz.out.own hfR) _) ⟨wR.heap.size, 0, none⟩ 1 1 [.slice (some ⟨gR, 0, none⟩) (j + 1) capR] (by rfl) rfl (cell_one_newN _ _ _ _ (by simp)) (by simp [Value.oneCell']) (by decide) (by unfold maxLen; omega) (by omega) (by have := hfR.size; simp; omega) (wR.heap.size + 1) (by simp) ?_; intro gA capA wA hownA hgrowA hatA hltA; skip))
              have hgR : w.heap.size ≤ gR := by
                have h1 := ownsRow_own_ge hownR gR rfl
                have h2 := hfb.out.size
                have h3 := hf.size
                omega
              have hxr' : RowAt wR ⟨0, xc ++ [kk], gR, capR⟩ := owns_rowAt (by rw [List.map_append]; exact hownR)
              have hxlen : (xc ++ [kk]).length = j + 1 := by rw [List.length_append, hxl9.out]; rfl
              have hpush := (hCz.out.fr hfR).push hgR hxr' (by show wA.ownsRow _ _ _ _ _ (zs.map BX.rv ++ [.slice (some ⟨gR, 0, none⟩) (xc ++ [kk]).length capR]); rw [hxlen]; exact hownA) hgrowA
              rw [List.append_assoc, ← hext.out] at hpush
              have hfA : Fr wo wA := ((hf3.trans hfR).alloc _).grown hgrowA (fun k e => (hCz.out.own.lt k e).1)
              go_roundg (gk - 1)
              case measure => omega
              case rel => exact ⟨q + 1, _, by rw [show ((q + 1 : Nat) : Int) - (m : Int) = kk + 1 by have := hkk.out; omega], by omega, hfA, by rw [List.length_append, List.length_singleton]; omega, hpush⟩
            · obtain rfl : q = 2 * m + 1 := by omega
              have dq : decide (((2 * m + 1 : Nat) : Int) - (m : Int) ≤ (m : Int)) = false := decide_eq_false (by omega)
              have hCz2 := hCz.out
              rw [List.take_of_length_le (l := spanC m) (by rw [span_len]; exact Nat.le_refl _)] at hCz2
              have e9 : ((modelC m j).take t).flatMap (extC m) ++ (spanC m).map (fun k => xc ++ [k]) = ((modelC m j).take (t + 1)).flatMap (extC m) := by rw [hfl.out]; rfl
              rw [e9] at hCz2
              replace hCz2 := Lib.hid hCz2
              clear e9
              generalize ((2 * m + 1 : Nat) : Int) - (m : Int) = kk at *
              go_wp2_with fail
              go_roundg (kt - 1)
              case measure => omega
              case rel => exact ⟨t + 1, zs, by go_num, by omega, hf3, hCz2⟩
        · obtain rfl : t = px := by omega
          have dt : decide (t < t) = false := decide_eq_false ht
          have hCy2 := hCy.out
          rw [List.take_of_length_le (by rw [modelC_size, ← hxl.out]; exact Nat.le_refl _)] at hCy2
          have hCy3 : CntI wr wb.heap.size w.heap.size u8 ys (modelC m (j + 1)) := ⟨ownsRow_mono hCy2.own hf.size, hCy2.row, hCy2.eq⟩
          replace hCy3 := Lib.hid hCy3
          clear hCy2
          go_wp2_with fail
          go_roundg (ko - 1)
          case measure => omega
          case rel => exact ⟨j + 1, ys, by go_num, by omega, hf.trans hf2, hCy3⟩
    · obtain rfl : j = nA := by omega
      have dj : decide (j < j) = false := decide_eq_false hj
      obtain ⟨px, hpx⟩ : ∃ px, px = xs.length := ⟨_, rfl⟩
      have hxl := hC.out.len
      rw [modelC_size, ← hpx] at hxl
      have hpx1 : 1 ≤ px := by rw [hxl]; exact Nat.pow_pos (by omega)
      have hpx2 : nN * px ≤ 1000000 := by rw [hxl]; exact hbox.out
      have hpx3 : px ≤ 1000000 := by rw [hxl]; exact hP.out
      obtain ⟨g7, cap7, -, e7, -, -, -, -⟩ := hC.out.at (t := 0) (by omega)
      subst e7
      rw [← hpx]
      replace hpx := Lib.hid hpx
      replace hxl := Lib.hid hxl
      obtain ⟨wc, rfl⟩ : ∃ wc : World, wc = wr := ⟨_, rfl⟩
      have b0 := hf.keep hb0.out
      go_wp2_with fail
      go_loopg [12, 51] nN (fun gk s12 s51 wr => ∃ (i : Nat) (K : List BX), s51 = .int .i64 i ∧ i + gk = nN ∧ Fr wc wr ∧ Hid (OutI wr wc.heap.size w.heap.size s12 K ((modelL m j i).filter fun s => decide (sumS N A s = R))))
      case atStart => exact ⟨0, [], rfl, by omega, Fr.refl _, OutI.nil _ _ _⟩
      case round =>
        clear b0
        obtain ⟨i, K, rfl, hik, hfc, hO⟩ := hrel
        by_cases hi9 : i < nN
        · have di : decide (i < nN) = true := decide_eq_true hi9
          obtain ⟨ko, rfl⟩ : ∃ ko : Nat, ko = gk := ⟨_, rfl⟩
          obtain ⟨wo, rfl⟩ : ∃ wo : World, wo = wr := ⟨_, rfl⟩
          go_wp2_with fail
          go_loopg [12, 56] px (fun gk s12 s56 wr => ∃ (t : Nat) (K : List BX), s56 = .int .i64 t ∧ t + gk = px ∧ Fr wc wr ∧ Hid (OutI wr wc.heap.size w.heap.size s12 K ((modelL m j i ++ ((modelC m j).take t).map fun cs => (i, cs)).filter fun s => decide (sumS N A s = R))))
          case atStart => exact ⟨0, K, rfl, by omega, hfc, by rw [List.take_zero, List.map_nil, List.append_nil]; exact hO⟩
          case round =>
            clear hO
            obtain ⟨t, K, rfl, htk, hfc2, hO⟩ := hrel
            by_cases ht : t < px
            · have dt : decide (t < px) = true := decide_eq_true ht
              obtain ⟨g9, cap9, x, e9, hxt, hxc, ⟨hxg, hxr⟩, hxL⟩ := hC.out.at (t := t) (by rw [← hpx.out]; exact ht)
              injection e9 with e9 e9' e9''
              injection e9 with e9
              injection e9 with e9
              subst e9
              clear e9' e9''
              replace hxc := hfc2.keep hxc
              replace hxr := hxr.fr hfc2
              obtain ⟨m2, m3⟩ := model_mem.1 (List.mem_of_getElem? hxL)
              unfold BX.rv at hxc
              rw [m2] at hxc
              have b0 := hfc2.keep (hf.keep hb0.out)
              have b1 := hfc2.keep (hf.keep hb1.out)
              have hfw := (hfb.out.trans hf).trans hfc2
              have hrd := fun W (hW : Fr wr W) => read_law d aN aA cN cA N A i x.cs (some ⟨x.g, 0, none⟩) x.c W (hG.fr (hfw.trans hW)) (hn.out.fr (hfw.trans hW)) hok.out (by rw [← hnN.out]; exact hi9) (hxr.2.fr hW) (by rw [← hnA.out]; exact m2) (fun c hc => by have := m3 c hc; unfold fitB; exact decide_eq_true (by omega))
              have hSl : (sumS N A (i, x.cs)).length = d := sumS_length hok.out (by rw [← hnN.out]; exact hi9) x.cs
              have hd12 := hok.out.d12
              have heq := fun W (hW : Fr wr W) a c (hel : El W sv a (sumS N A (i, x.cs))) => Equal_txs (sumS N A (i, x.cs)) R a ra c rc W hel (hR.out.fr (hfw.trans hW)) (by omega) (by rw [← hnR.out]; omega)
              rw [← hnN.out, ← hnA.out, m2] at hrd
              rw [← hnR.out] at heq
              have hts := take_snoc hxL
              generalize hSS : sumS N A (i, x.cs) = SS at *
              obtain ⟨qq, hqq⟩ : ∃ qq, qq = decide (SS = R) := ⟨_, rfl⟩
              rw [← hqq] at heq
              replace hqq := Lib.hid hqq
              replace hSS := Lib.hid hSS
              replace hrd := Lib.hid hrd
              replace heq := Lib.hid heq
              replace hts := Lib.hid hts
              replace hxL := Lib.hid hxL
              replace hxt := Lib.hid hxt
              replace hxr := Lib.hid hxr
              replace m2 := Lib.hid m2
              replace hSl := Lib.hid hSl
              clear m3 hd12
              have y0 : (0 : Int) ≤ (t : Int) := by omega
              go_upto_region 23 with (fail)
              obtain ⟨wS, hwS⟩ : ∃ wS, wS = wr.alloc (Obj.cells #[Value.int IntKind.i64 ↑i, Value.slice (some { block := x.g, off := 0 }) j x.c] 42) := ⟨_, rfl⟩
              have hfS : Fr wr wS := by rw [hwS]; exact (Fr.refl _).alloc _
              have s0 : wS.cell? ⟨wr.heap.size, 0, none⟩ = some (.int .i64 i) := by rw [hwS]; exact (new2a _ _ _ _).1
              have s1 : wS.cell? ⟨wr.heap.size, 1, none⟩ = some (.slice (some ⟨x.g, 0, none⟩) j x.c) := by rw [hwS]; exact (new2b _ _ _ _).1
              rw [← hwS]
              clear hwS
              replace b0 := hfS.keep b0
              replace b1 := hfS.keep b1
              go_wp2_with fail
              refine (hrd.out _ hfS).mono ?_
              rintro e w5 ⟨a5, c5, rfl, he5, hc5, hf5⟩
              have heq5 := Lib.hid (heq.out w5 (hfS.trans hf5) a5 c5 he5)
              replace s0 := hf5.keep s0
              replace s1 := hf5.keep s1
              replace he5 := Lib.hid he5
              go_wp2_with fail
              refine heq5.out.mono ?_
              rintro e w6 ⟨rfl, hf6⟩
              replace s0 := hf6.keep s0
              replace s1 := hf6.keep s1
              have hf9 := (hfS.trans hf5).trans hf6
              have hsz9 := hf9.size
              have hszc := hfc2.size
              cases qq with
              | false =>
                have hfl : (modelL m j i ++ ((modelC m j).take (t + 1)).map fun cs => (i, cs)).filter (fun s => decide (sumS N A s = R)) = (modelL m j i ++ ((modelC m j).take t).map fun cs => (i, cs)).filter (fun s => decide (sumS N A s = R)) := by
                  rw [hts.out, List.map_append, ← List.append_assoc, List.filter_append]
                  have : decide (sumS N A (i, x.cs) = R) = false := by rw [hSS.out]; exact hqq.out.symm
                  simp [this]
                have hO2 := hO.out.fr hf9
                rw [← hfl] at hO2
                replace hO2 := Lib.hid hO2
                clear hfl
                go_wp2_with fail
                go_roundg (gk - 1)
                case measure => omega
                case rel => exact ⟨t + 1, K, by go_num, by omega, hfc2.trans hf9, hO2⟩
              | true =>
                have hfl : (modelL m j i ++ ((modelC m j).take (t + 1)).map fun cs => (i, cs)).filter (fun s => decide (sumS N A s = R)) = (modelL m j i ++ ((modelC m j).take t).map fun cs => (i, cs)).filter (fun s => decide (sumS N A s = R)) ++ [(i, x.cs)] := by
                  rw [hts.out, List.map_append, ← List.append_assoc, List.filter_append]
                  have : decide (sumS N A (i, x.cs) = R) = true := by rw [hSS.out]; exact hqq.out.symm
                  simp [this]
                have hO2 := hO.out.fr hf9
                have hKl : K.length ≤ 1000000 := by
                  have h1 : K.length = (K.map stripX).length := (List.length_map _).symm
                  rw [hO.out.eq] at h1
                  have h2 := List.length_filter_le (fun s => decide (sumS N A s = R)) (modelL m j i ++ ((modelC m j).take t).map fun cs => (i, cs))
                  rw [List.length_append, modelL_size, List.length_map, List.length_take, ← hxl.out] at h2
                  have h3 := Nat.mul_le_mul_right px (show i + 1 ≤ nN by omega)
                  rw [Nat.add_mul, Nat.one_mul] at h3
                  omega
                have hflat := flat2_length (K.map BX.enc2)
                rw [List.length_map] at hflat
                replace hfl := Lib.hid hfl
                replace hO2 := Lib.hid hO2
                replace hflat := Lib.hid hflat
                go_wp2_with (at_builtin; refine wpList_append_lies _ rfl _ _ 36 (by rfl) wc.heap.size 42 i2 _ 2 32 Tryz.underlying36 ki kz0 kz1 kz2 rfl (by decide) _ K.length _ (by rfl) (World.ownsRow.alloc hO2.out.own _) ⟨w6.heap.size, 0, none⟩ 1 1 [.int .i64 i, .slice (some ⟨x.g, 0, none⟩) j x.c] (by rfl) rfl (cell_two_newN _ _ _ _ _ rfl) (by simp [Value.oneCell']) (by decide) (by unfold maxLen; omega) (by omega) (by simp; omega) (w6.heap.size + 1) (by simp) ?_; intro gA capA wA hownA hgrowA hatA hltA)
                have hpush := hO2.out.push (x := ⟨i, x.cs, x.g, x.c⟩) hxg (hxr.out.fr hf9) (by
                  show wA.ownsRow _ _ _ _ _ (flat2 (K.map BX.enc2) ++ [.int .i64 i, .slice (some ⟨x.g, 0, none⟩) x.cs.length x.c])
                  rw [m2.out]; exact hownA) hgrowA
                rw [show stripX ⟨i, x.cs, x.g, x.c⟩ = (i, x.cs) from rfl, ← hfl.out] at hpush
                have hfA := ((hfc2.trans hf9).alloc _).grown hgrowA (fun k e => (hO2.out.own.lt k e).1)
                go_roundg (gk - 1)
                case measure => omega
                case rel => exact ⟨t + 1, _, by go_num, by omega, hfA, hpush⟩
            · obtain rfl : t = px := by omega
              have dt : decide (t < t) = false := decide_eq_false ht
              have hO2 := hO.out
              rw [List.take_of_length_le (by rw [modelC_size, ← hxl.out]; exact Nat.le_refl _), ← modelL_succ] at hO2
              replace hO2 := Lib.hid hO2
              go_wp2_with fail
              go_roundg (ko - 1)
              case measure => omega
              case rel => exact ⟨i + 1, K, by go_num, by omega, hfc2, hO2⟩
        · obtain rfl : i = nN := by omega
          have di : decide (i < i) = false := decide_eq_false hi9
          have hKm := hO.out.eq
          have hKnd : (K.map stripX).Nodup := by rw [hKm]; exact (modelL_nodup m j i).filter _
          have hKb : ∀ x, x ∈ K → x.cs.length = j ∧ ∀ c, c ∈ x.cs → fitB c = true := fun x hx => by
            have h1 : stripX x ∈ (modelL m j i).filter fun s => decide (sumS N A s = R) := by rw [← hKm]; exact List.mem_map_of_mem hx
            obtain ⟨-, m2, m3⟩ := modelL_mem (List.mem_filter.1 h1).1
            exact ⟨m2, fun c hc => by have := m3 c hc; unfold fitB; exact decide_eq_true (by omega)⟩
          have hKl : K.length ≤ 1000001 := by
            have h1 : K.length = (K.map stripX).length := (List.length_map _).symm
            rw [hKm] at h1
            have h2 := List.length_filter_le (fun s => decide (sumS N A s = R)) (modelL m j i)
            rw [modelL_size, ← hxl.out] at h2
            omega
          have hsort9 : sortS (K.map stripX) = sortS ((boxL m j i).filter fun s => decide (sumS N A s = R)) := by rw [hKm]; exact modelL_sort _ _ _ _
          have hfw := (hfb.out.trans hf).trans hfc
          replace hKm := Lib.hid hKm
          replace hKnd := Lib.hid hKnd
          replace hKb := Lib.hid hKb
          by_cases hK0 : K = []
          · subst hK0
            have hv := hO.out.emp rfl
            subst hv
            have hsort := Lib.hid (fun fv => AnyF.slices_SortFunc_none { Tryz.sortSp with } none 0 fv wr)
            have hres := Lib.hid (show ∀ W', Fr w W' → AllRet w (sortS ((boxL m j i).filter fun s => decide (sumS N A s = R))) (.returned (.slice none 0 0)) W' from fun W' hW' => by
              rw [← hsort9]
              exact ⟨none, 0, [], rfl, ⟨⟨rfl, .inl ⟨rfl, rfl⟩⟩, fun x hx => by simp at hx⟩, by simp [sortS], hW'⟩)
            clear hsort9
            go_wp2_with fail
            refine (hsort.out _).mono ?_
            rintro e W1 ⟨rfl, rfl⟩
            go_wp2_with fail
            go_ret
            exact hres.out _ hfw
          · obtain ⟨g, cap, rfl⟩ := ownsRow_pos hO.out.own (List.length_pos_iff.2 hK0)
            have hge := ownsRow_own_ge hO.out.own g rfl
            have hsort := SortFunc_lw wc.heap.size g cap K wr hO.out.own (fun x hx => (hO.out.row x hx).2) hKnd.out (fun x hx => by rw [(hKb.out x hx).1]; omega) (fun x hx => (hKb.out x hx).2) hK0 hKl
            replace hsort := Lib.hid hsort
            have hwc := (hfb.out.trans hf).size
            clear hK0
            replace hsort9 := Lib.hid hsort9
            go_wp2_with fail
            refine hsort.out.mono ?_
            rintro e W1 ⟨rfl, K', hK1, hK2, hF1, hown1⟩
            have hFr1 : Fr w W1 := ((Fx.of_fr hfw).trans hF1).toFr (fun k hk e => by have e : k = g := e; omega)
            have hlK : K'.length = K.length := hK2.length_eq
            have hfin := Lib.hid (show OwnSp W1 w.heap.size (some ⟨g, 0, none⟩) cap K' from ⟨by rw [hlK]; exact ownsRow_mono hown1 hwc, fun x hx => by
              obtain ⟨z1, z3⟩ := hO.out.row x (hK2.mem_iff.1 hx)
              have hne := z3.ne hO.out.own
              have hne2 : ¬ x.g = g := fun e => hne (by rw [e]; rfl)
              have z4 := z3.fx hF1 hne2
              exact ⟨z1, z4.lt, by rw [hlK]; exact hne, z4.2⟩⟩)
            replace hK1 := Lib.hid hK1
            replace hlK := Lib.hid hlK
            clear hown1 hF1
            go_wp2_with fail
            go_ret
            exact ⟨some ⟨g, 0, none⟩, cap, K', by rw [hlK.out]; rfl, hfin.out, by rw [hK1.out]; exact hsort9.out, hFr1⟩
end Go.Proofs.YtphjfalibnnohaaGreatDoor
