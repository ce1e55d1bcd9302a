/- spelling.sum, checkSpelling, open, Read. -/
import Derived.Test.YtphjfalibnnohaaGreatDoorNot
import Derived.Test.YtphjfalibnnohaaGreatDoorBox
import Derived.Test.YtphjfalibnnohaaGreatDoorKernel
namespace Go.Proofs.YtphjfalibnnohaaGreatDoor
open Go.RowKit Go.Lib

def addK (k : Int) (out x : List Int) : List Int := List.zipWith (fun o y => o + k * y) out x
def sumL (r : List Int) : List Int → List (List Int) → List Int
  | k :: ks, x :: xs => sumL (addK k r x) ks xs
  | _, _ => r
def rowOf (N : List Sy) (i : Nat) : List Int := ((N[i]?).map Sy.row).getD []
def sumS (N A : List Sy) (s : Nat × List Int) : List Int := sumL (rowOf N s.1) s.2 (A.map Sy.row)
theorem rowOf_eq {N : List Sy} {i : Nat} {x : Sy} (h : N[i]? = some x) : rowOf N i = x.row := by unfold rowOf; rw [h]; rfl
theorem addK_length {k : Int} {r x : List Int} (h : x.length = r.length) : (addK k r x).length = r.length := by unfold addK; rw [List.length_zipWith]; omega
theorem addK_get {k : Int} {r x : List Int} {c : Nat} {a b : Int} (h1 : r[c]? = some a) (h2 : x[c]? = some b) : (addK k r x)[c]? = some (a + k * b) := by
  unfold addK; rw [List.getElem?_zipWith, h1, h2]
/-- the sum behind j steps -/
theorem sumL_step (r : List Int) : ∀ (ks : List Int) (xs : List (List Int)) (j : Nat) (k : Int) (x : List Int), ks[j]? = some k → xs[j]? = some x → sumL r (ks.take (j + 1)) (xs.take (j + 1)) = addK k (sumL r (ks.take j) (xs.take j)) x
  | [], xs, j, k, x, h, _ => by simp at h
  | k0 :: ks, [], j, k, x, _, h => by simp at h
  | k0 :: ks, x0 :: xs, 0, k, x, h, g => by simp at h g; subst h; subst g; simp [sumL]
  | k0 :: ks, x0 :: xs, j + 1, k, x, h, g => by
    have := sumL_step (addK k0 r x0) ks xs j k x (by simpa using h) (by simpa using g)
    simpa [sumL] using this
theorem sumL_length (d : Nat) : ∀ (ks : List Int) (xs : List (List Int)) (r : List Int), r.length = d → (∀ x, x ∈ xs → x.length = d) → (sumL r ks xs).length = d
  | [], xs, r, h, _ => by cases xs <;> exact h
  | k :: ks, [], r, h, _ => h
  | k :: ks, x :: xs, r, h, hx => by
    rw [sumL]
    exact sumL_length d ks xs _ (by rw [addK_length (by rw [h]; exact hx x (List.mem_cons_self ..))]; exact h) (fun y hy => hx y (List.mem_cons_of_mem _ hy))
def BdL (m : Int) (l : List Int) : Prop := ∀ x, x ∈ l → -m ≤ x ∧ x ≤ m
theorem mul_e18 {a b : Int} (h1 : -1000000000 ≤ a ∧ a ≤ 1000000000) (h2 : -1000000000 ≤ b ∧ b ≤ 1000000000) : -1000000000000000000 ≤ a * b ∧ a * b ≤ 1000000000000000000 := by
  have h3 : a.natAbs ≤ 1000000000 := by omega
  have h4 : b.natAbs ≤ 1000000000 := by omega
  have h5 : a.natAbs * b.natAbs ≤ 1000000000 * 1000000000 := Nat.mul_le_mul h3 h4
  have h6 := Int.natAbs_mul a b
  omega
theorem fitB_bd {x : Int} (h : fitB x = true) : -1000000000 ≤ x ∧ x ≤ 1000000000 := by
  unfold fitB at h; exact of_decide_eq_true h
theorem sumL_bd : ∀ (ks : List Int) (xs : List (List Int)) (r : List Int) (m : Int), BdL m r → (∀ k, k ∈ ks → fitB k = true) → (∀ x, x ∈ xs → ∀ y, y ∈ x → fitB y = true) → BdL (m + 1000000000000000000 * ks.length) (sumL r ks xs)
  | [], xs, r, m, h, _, _ => by cases xs <;> (intro x hx; have := h x hx; simp; omega)
  | k :: ks, [], r, m, h, _, _ => fun x hx => by have := h x hx; simp only [List.length_cons]; omega
  | k :: ks, x :: xs, r, m, h, hk, hx => by
    rw [sumL]
    have h1 : BdL (m + 1000000000000000000) (addK k r x) := fun z hz => by
      unfold addK at hz
      obtain ⟨i, hi⟩ := List.getElem?_of_mem hz
      rw [List.getElem?_zipWith] at hi
      cases ha : r[i]? with
      | none => rw [ha] at hi; simp at hi
      | some a =>
        cases hb : x[i]? with
        | none => rw [ha, hb] at hi; simp at hi
        | some b =>
          rw [ha, hb] at hi
          injection hi with hi
          have q1 := h a (List.mem_of_getElem? ha)
          have q2 := mul_e18 (fitB_bd (hk k (List.mem_cons_self ..))) (fitB_bd (hx x (List.mem_cons_self ..) b (List.mem_of_getElem? hb)))
          omega
    have := sumL_bd ks xs (addK k r x) (m + 1000000000000000000) h1 (fun y hy => hk y (List.mem_cons_of_mem _ hy)) (fun y hy => hx y (List.mem_cons_of_mem _ hy))
    intro z hz
    have := this z hz
    simp only [List.length_cons]
    omega

/-- a row of ints that the call has made -/
def RowNew (w : World) (xs : List Int) (e : Ending) (w' : World) : Prop := ∃ g c, e = .returned (.slice (some ⟨g, 0, none⟩) xs.length c) ∧ w.heap.size ≤ g ∧ El w' iv (some ⟨g, 0, none⟩) xs ∧ Fr w w'

set_option maxRecDepth 100000 in
set_option maxHeartbeats 4000000 in
theorem sum_any (d : Nat) (aN aA : Option Addr) (cN cA : Nat) (N A : List Sy) (i : Nat) (cs : List Int) (ca : Option Addr) (cc : Nat) (w : World) (hn : NotIs w aN aA cA N A) (hok : NotOk d N A) (hd : 1 ≤ d) (hi : i < N.length) (hcs : El w iv ca cs) (hl : cs.length = A.length) (hfit : ∀ x, x ∈ cs → fitB x = true) :
    Calls Tryz.prog 42 #[.agg #[.slice aN N.length cN, .slice aA A.length cA], .agg #[.int .i64 i, .slice ca cs.length cc]] w (RowNew w (sumS N A (i, cs))) := by
  have hn1 := hok.n1
  have hn60 := hok.n60
  have ha6 := hok.a6
  have hd12 := hok.d12
  obtain ⟨b, o, x, rfl, hbl, hxi, hc1, hc2, hel⟩ := hn.noms.at hi
  have hxm : x ∈ N ++ A := List.mem_append_left _ (List.mem_of_getElem? hxi)
  have hrl := hok.row x hxm
  have hrf := hok.fit x hxm
  have hro := rowOf_eq hxi
  have hAr : ∀ y, y ∈ A.map Sy.row → y.length = d := fun y hy => by obtain ⟨z, hz, rfl⟩ := List.mem_map.1 hy; exact hok.row z (List.mem_append_right _ hz)
  have hAf : ∀ y, y ∈ A.map Sy.row → ∀ u, u ∈ y → fitB u = true := fun y hy => by obtain ⟨z, hz, rfl⟩ := List.mem_map.1 hy; exact hok.fit z (List.mem_append_right _ hz)
  have hacc := hn.accs
  have hfin : sumS N A (i, cs) = sumL x.row cs (A.map Sy.row) := by unfold sumS; rw [hro]
  obtain ⟨rb, rO, hra⟩ : ∃ rb rO, x.ra = some ⟨rb, rO, none⟩ := by
    obtain ⟨b1, o1, x1, h1, _⟩ := hel.at (i := 0) (by omega)
    exact ⟨b1, o1, h1⟩
  rw [hra, hrl] at hc2
  rw [hra] at hel
  have hcl := fun W (hW : Fr w W) => Clone_ints rb rO x.rc x.row W (by omega) (fun j y hy => by
    rcases hel.fr hW with h | ⟨b9, o9, h1, _, h3⟩
    · rw [h] at hy; simp at hy
    · injection h1 with h1; injection h1 with h1 h2; subst h1; subst h2; exact h3 j y hy)
  rw [hrl] at hcl
  rw [hfin]
  have hbd0 : BdL 1000000000 x.row := fun y hy => fitB_bd (hrf y hy)
  obtain ⟨R, hR⟩ : ∃ R, R = x.row := ⟨_, rfl⟩
  rw [← hR] at hcl hbd0 hrl ⊢
  obtain ⟨n, hnn⟩ : ∃ n, n = cs.length := ⟨_, rfl⟩
  obtain ⟨XR, hXR⟩ : ∃ XR, XR = A.map Sy.row := ⟨_, rfl⟩
  have hlA : A.length = n := by omega
  have hbd := fun j => sumL_bd (cs.take j) (XR.take j) R 1000000000 hbd0 (fun k hk => hfit k (List.mem_of_mem_take hk)) (fun y hy => by rw [hXR] at hy; exact hAf y (List.mem_of_mem_take hy))
  have hln := fun j => sumL_length d (cs.take j) (XR.take j) R hrl (fun y hy => by rw [hXR] at hy; exact hAr y (List.mem_of_mem_take hy))
  rw [← hXR]
  rw [← hnn, hlA]
  have hn6 : n ≤ 6 := by omega
  obtain ⟨rc, hrc⟩ : ∃ rc, rc = x.rc := ⟨_, rfl⟩
  rw [← hrc] at hc2 hcl
  replace hcl := Lib.hid hcl
  replace hbd := Lib.hid hbd
  replace hln := Lib.hid hln
  replace hacc := Lib.hid hacc
  replace hcs := Lib.hid hcs
  replace hnn := Lib.hid hnn
  replace hlA := Lib.hid hlA
  replace hXR := Lib.hid hXR
  replace hAr := Lib.hid hAr
  replace hAf := Lib.hid hAf
  replace hrl := Lib.hid hrl
  replace hfit := Lib.hid hfit
  have z0 : (i : Int) < (N.length : Int) := by omega
  have z1 : (0 : Int) ≤ (i : Int) := by omega
  clear hn hok hl hxi hxm hrf hro hfin hra hel hrc hR hc1 hbd0
  have hfA : Fr w ((w.alloc (.cells #[.slice (some ⟨b, o, none⟩) N.length cN, .slice aA n cA] 30)).alloc (.cells #[.int .i64 i, .slice ca n cc] 42)) := ((Fr.refl w).alloc _).alloc _
  have p2 := new2b w (.slice (some ⟨b, o, none⟩) N.length cN) (.slice aA n cA) 30
  have p3 := (Fr.refl (w.alloc (.cells #[.slice (some ⟨b, o, none⟩) N.length cN, .slice aA n cA] 30))).alloc (.cells #[.int .i64 i, .slice ca n cc] 42) |>.keep p2.1
  have p4 := new2b (w.alloc (.cells #[.slice (some ⟨b, o, none⟩) N.length cN, .slice aA n cA] 30)) (.int .i64 i) (.slice ca n cc) 42
  rw [show (w.alloc (.cells #[.slice (some ⟨b, o, none⟩) N.length cN, .slice aA n cA] 30)).heap.size = w.heap.size + 1 by simp] at p4
  replace p3 := Lib.hid p3
  replace p4 := Lib.hid p4.1
  replace hfA := Lib.hid hfA
  clear p2
  go_enter Tryz.func42, Tryz.ntmps42
  go_wp2_with fail
  refine (hcl.out _ hfA.out).mono ?_
  rintro e w1 ⟨g, c, rfl, hf1, hown1⟩
  rw [hrl.out] at hown1 ⊢
  obtain ⟨-, hg1, hg2, -, hcell1⟩ := ownsRow_some hown1
  have hcnt : Cnt w1 g (R.map iv) := ⟨hg2, fun j u hu => hcell1 j u hu⟩
  have hgw : w.heap.size ≤ g := Nat.le_trans hfA.out.size hg1
  have hgs : w.heap.size + 2 ≤ g := by have h := hg1; simp at h; exact h
  have hfw := hfA.out.trans hf1
  have q3 := hf1.keep p3.out
  have q4 := hf1.keep p4.out
  clear hown1 hcell1 hg1 hg2 hcl hf1 p3 p4
  go_wp2_with fail
  go_loopg [21] n (fun k s21 wr => ∃ j : Nat, s21 = .int .i64 j ∧ j + k = n ∧ Cnt wr g ((sumL R (cs.take j) (XR.take j)).map iv) ∧ Fr w wr ∧ Hid (wr.cell? ⟨w.heap.size, 1, none⟩ = some (.slice aA n cA)))
  case atStart => exact ⟨0, rfl, by omega, by simpa [sumL] using hcnt, hfw, Lib.hid q3⟩
  case round =>
    clear hcnt hfw q3 q4
    obtain ⟨j, rfl, hjk, hcnt, hfw, hq⟩ := hrel
    by_cases hj : j < n
    · have hdJ : decide (j < n) = true := decide_eq_true hj
      obtain ⟨kb, ko, kk, rfl, hkb, hkj, hkc⟩ := (hcs.out.fr hfw).at (i := j) (by rw [← hnn.out]; exact hj)
      obtain ⟨yb, yo, y, rfl, hyb, hyj, hyc1, hyc2, hyel⟩ := hacc.out.at (i := j) (by rw [hlA.out]; exact hj)
      have hXj : XR[j]? = some y.row := by rw [hXR.out, List.getElem?_map, hyj]; rfl
      have hym : y.row ∈ A.map Sy.row := by rw [← hXR.out]; exact List.mem_of_getElem? hXj
      have hyl := hAr.out _ hym
      have hyf := hAf.out _ hym
      have hst := sumL_step R cs XR j kk y.row hkj hXj
      have hkf := fitB_bd (hfit.out kk (List.mem_of_getElem? hkj))
      have hRl := hln.out j
      have hRb := hbd.out j
      rw [List.length_take, Nat.min_eq_left (by rw [← hnn.out]; omega)] at hRb
      rw [hyl] at hyc2
      generalize sumL R (cs.take j) (XR.take j) = Rj at *
      generalize y.row = yr at *
      generalize y.ra = ra at *
      generalize y.rc = yrc at *
      have hzl : (addK kk Rj yr).length = Rj.length := addK_length (by rw [hyl, hRl])
      have hzg : ∀ (t : Nat) (a b : Int), Rj[t]? = some a → yr[t]? = some b → (addK kk Rj yr)[t]? = some (a + kk * b) := fun t a b h1 h2 => addK_get h1 h2
      generalize addK kk Rj yr = zs at *
      replace hst := Lib.hid hst
      replace hzg := Lib.hid hzg
      replace hRl := Lib.hid hRl
      replace hzl := Lib.hid hzl
      replace hyl := Lib.hid hyl
      replace hyel := Lib.hid hyel
      replace hyf := Lib.hid hyf
      replace hRb := Lib.hid hRb
      have hqq := hq.out
      replace hyc2 := hfw.keep hyc2
      clear hkj hyj hXj hym hyc1
      obtain ⟨wo, rfl⟩ : ∃ wo : World, wo = wr := ⟨_, rfl⟩
      obtain ⟨k0, rfl⟩ : ∃ k0 : Nat, k0 = gk := ⟨_, rfl⟩
      have y1 : (j : Int) < (n : Int) := by omega
      have y0 : (0 : Int) ≤ (j : Int) := by omega
      go_wp2_with fail
      go_loopg [33] d (fun k s33 wr2 => ∃ t : Nat, s33 = .int .i64 t ∧ t + k = d ∧ Cnt wr2 g ((zs.take t ++ Rj.drop t).map iv) ∧ Fr w wr2 ∧ Hid (wr2.cell? ⟨w.heap.size, 1, none⟩ = some (.slice (some ⟨yb, yo, none⟩) n cA)) ∧ Fx (· = g) wo wr2)
      case atStart => exact ⟨0, rfl, by omega, by simpa using hcnt, hfw, hq, Fx.refl _ _⟩
      case round =>
        clear hcnt hfw hq hqq
        obtain ⟨t, rfl, htk, hcnt, hfw, hq, hfx⟩ := hrel
        by_cases ht : t < d
        · have hdT : decide (t < d) = true := decide_eq_true ht
          obtain ⟨b2, o2, yy, rfl, hb2, hyt, hyc⟩ := (hyel.out.fr hfw).at (i := t) (by rw [hyl.out]; exact ht)
          obtain ⟨rr, hrt⟩ : ∃ rr, Rj[t]? = some rr := ⟨_, List.getElem?_eq_getElem (by rw [hRl.out]; exact ht)⟩
          have hzt := hzg.out t rr yy hrt hyt
          obtain ⟨cc1, cf1⟩ := hcnt.2 t (iv rr) (by rw [List.getElem?_map, mid_get zs Rj t hzl.out (by rw [hRl.out]; exact ht), hrt]; rfl)
          have hyb2 := fitB_bd (hyf.out yy (List.mem_of_getElem? hyt))
          have hrb2 := hRb.out rr (List.mem_of_getElem? hrt)
          have hmb := mul_e18 hkf hyb2
          have hset := Lib.hid (mid_set zs Rj t hzl.out (by rw [hRl.out]; exact ht) _ hzt)
          have hcn := Lib.hid hcnt
          clear hrt hzt hyt hcnt hyb2
          obtain ⟨m1, m2⟩ := hmb
          have s1 : -9223372036854775808 ≤ rr + kk * yy := by omega
          have s2 : rr + kk * yy ≤ 9223372036854775807 := by omega
          obtain ⟨r1, r2⟩ := hrb2
          have x1 : (t : Int) < (d : Int) := by omega
          have x0 : (0 : Int) ≤ (t : Int) := by omega
          go_wp2_with fail
          have hO := hcn.out.set t (by rw [List.length_map, List.length_append, List.length_take, List.length_drop, hzl.out, hRl.out]; omega) (iv (rr + kk * yy))
          rw [← List.map_set, hset.out] at hO
          have hF : Fx (· = g) wr (wr.setCell ⟨g, t, none⟩ (iv (rr + kk * yy))) := Fx.setCell (p := (· = g)) (q := ⟨g, t, none⟩) (Fx.refl _ wr) (.inl rfl) _
          go_roundg (gk - 1)
          case measure => omega
          case rel => exact ⟨t + 1, by go_num, by omega, hO, hfw.setCell (p := ⟨g, t, none⟩) hgw _, Lib.hid (hF.keep hq.out (fun e => by have e : w.heap.size = g := e; omega)), hfx.trans hF⟩
        · obtain rfl : t = d := by omega
          have hdT : decide (t < t) = false := decide_eq_false (by omega)
          have hcn : Cnt wr g (zs.map iv) := by
            rw [List.take_of_length_le (by rw [hzl.out, hRl.out]; omega), List.drop_of_length_le (by rw [hRl.out]; omega), List.append_nil] at hcnt
            exact hcnt
          rw [← hst.out] at hcn
          clear hcnt
          go_wp2_with fail
          go_roundg (k0 - 1)
          case measure => omega
          case rel => exact ⟨j + 1, by go_num, by omega, hcn, hfw, hq⟩
    · obtain rfl : j = n := by omega
      have hdJ : decide (j < j) = false := decide_eq_false (by omega)
      have hXl : XR.length = j := by rw [hXR.out, List.length_map, hlA.out]
      rw [List.take_of_length_le (by rw [← hnn.out]; exact Nat.le_refl _), List.take_of_length_le (by rw [hXl]; exact Nat.le_refl _)] at hcnt
      have hL := hln.out j
      rw [List.take_of_length_le (by rw [← hnn.out]; exact Nat.le_refl _), List.take_of_length_le (by rw [hXl]; exact Nat.le_refl _)] at hL
      clear hXl
      replace hL := Lib.hid hL
      go_wp2_with fail
      go_ret
      refine ⟨g, c, by rw [hL.out]; rfl, hgw, .inr ⟨g, 0, rfl, hcnt.1, fun q v hv => ?_⟩, hfw⟩
      rw [Nat.zero_add]
      exact (hcnt.2 q (iv v) (by rw [List.getElem?_map, hv]; rfl)).1
end Go.Proofs.YtphjfalibnnohaaGreatDoor
