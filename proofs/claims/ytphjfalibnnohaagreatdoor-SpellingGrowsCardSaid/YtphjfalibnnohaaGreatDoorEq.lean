/- schismalaw43: equal, same; the closures of SpellingGrows. -/
import Derived.Test.YtphjfalibnnohaaGreatDoorEnh
namespace Go.Proofs.YtphjfalibnnohaaGreatDoor
open Go.RowKit Go.Lib
attribute [local go_sem ↓] Go.wp_at_zero Go.wp_at_succ

set_option maxRecDepth 100000 in
set_option maxHeartbeats 1000000 in
theorem equal_any (x y : BX) (W : World) (hx : El W iv (some ⟨x.g, 0, none⟩) x.cs) (hy : El W iv (some ⟨y.g, 0, none⟩) y.cs) (hl : x.cs.length ≤ 1000000) (hl2 : y.cs.length ≤ 1000000) :
    Calls Tryz.prog 24 #[.agg #[.int .i64 x.i, .slice (some ⟨x.g, 0, none⟩) x.cs.length x.c], .agg #[.int .i64 y.i, .slice (some ⟨y.g, 0, none⟩) y.cs.length y.c]] W fun e W' => e = .returned (.bool (decide (stripX x = stripX y))) ∧ Fr W W' := by
  have heq := fun W' (hW' : Fr W W') => Equal_row x.cs y.cs (some ⟨x.g, 0, none⟩) (some ⟨y.g, 0, none⟩) x.c y.c W' (hx.fr hW') (hy.fr hW') (by omega) (by omega)
  have hfA : Fr W ((W.alloc (.cells #[.int .i64 x.i, .slice (some ⟨x.g, 0, none⟩) x.cs.length x.c] 42)).alloc (.cells #[.int .i64 y.i, .slice (some ⟨y.g, 0, none⟩) y.cs.length y.c] 42)) := ((Fr.refl W).alloc _).alloc _
  have hst : decide (stripX x = stripX y) = (decide (x.i = y.i) && decide (x.cs = y.cs)) := by
    unfold stripX
    by_cases h1 : x.i = y.i <;> by_cases h2 : x.cs = y.cs <;> simp [h1, h2]
  rw [hst]
  replace heq := Lib.hid (heq _ hfA)
  replace hfA := Lib.hid hfA
  generalize decide (x.cs = y.cs) = q at *
  generalize x.cs.length = xl at *
  generalize y.cs.length = yl at *
  generalize x.g = xg at *
  generalize y.g = yg at *
  generalize x.c = xc at *
  generalize y.c = yc at *
  clear hx hy hst
  by_cases h1 : x.i = y.i
  · have hd : decide (x.i = y.i) = true := decide_eq_true h1
    have hd2 : ((x.i : Int) == (y.i : Int)) = true := by rw [h1]; simp
    rw [hd]
    generalize x.i = i at *
    generalize y.i = j at *
    clear h1 hd
    go_enter Tryz.func24, Tryz.ntmps24
    go_wp2_with fail
    refine heq.out.mono ?_
    rintro e w2 ⟨rfl, hf2⟩
    go_wp2_with fail
    go_ret
    exact ⟨rfl, hfA.out.trans hf2⟩
  · have hd : decide (x.i = y.i) = false := decide_eq_false h1
    have hd2 : ((x.i : Int) == (y.i : Int)) = false := beq_false_of_ne (by omega)
    rw [hd]
    generalize x.i = i at *
    generalize y.i = j at *
    clear h1 hd
    go_enter Tryz.func24, Tryz.ntmps24
    go_wp2_with fail
    go_ret
    exact ⟨rfl, hfA.out⟩

/-- spellings in memory -/
def BXs (w : World) (a : Option Addr) (xs : List BX) : Prop := Prs w a (xs.map BX.enc2) ∧ ∀ x, x ∈ xs → El w iv (some ⟨x.g, 0, none⟩) x.cs
theorem BXs.fr {w w' : World} {a : Option Addr} {xs : List BX} (h : BXs w a xs) (k : Fr w w') : BXs w' a xs := ⟨h.1.fr k, fun x hx => (h.2 x hx).fr k⟩
theorem BXs.at {w : World} {a : Option Addr} {xs : List BX} (h : BXs w a xs) {i : Nat} (hi : i < xs.length) :
    ∃ b o x, a = some ⟨b, o, none⟩ ∧ b < w.heap.size ∧ xs[i]? = some x ∧ w.cell? ⟨b, o + i * 2, none⟩ = some (.int .i64 x.i) ∧ w.cell? ⟨b, o + i * 2 + 1, none⟩ = some (.slice (some ⟨x.g, 0, none⟩) x.cs.length x.c) ∧ El w iv (some ⟨x.g, 0, none⟩) x.cs := by
  obtain ⟨b, o, z, ha, hb, hz, hc, hc2⟩ := h.1.at (i := i) (by rw [List.length_map]; exact hi)
  rw [List.getElem?_map, List.getElem?_eq_getElem hi] at hz
  injection hz with hz
  subst hz
  exact ⟨b, o, xs[i], ha, hb, List.getElem?_eq_getElem hi, hc, hc2, h.2 _ (List.getElem_mem hi)⟩
theorem OwnSp.bxs {w : World} {base : Nat} {a : Option Addr} {c : Nat} {xs : List BX} (h : OwnSp w base a c xs) : BXs w a xs := by
  refine ⟨?_, fun x hx => (h.el x hx).2.2.2⟩
  rcases h.addr with ⟨rfl, rfl, rfl⟩ | ⟨g, rfl⟩
  · exact .inl rfl
  · exact h.cnt.1.prs

set_option maxRecDepth 100000 in
set_option maxHeartbeats 4000000 in
theorem EqualFunc_any (xs ys : List BX) (a b : Option Addr) (ca cb : Nat) (w : World) (hx : BXs w a xs) (hy : BXs w b ys) (hl : xs.length ≤ 1000000000) (_hl2 : ys.length ≤ 1000000000) (hcx : ∀ x, x ∈ xs → x.cs.length ≤ 1000000) (hcy : ∀ x, x ∈ ys → x.cs.length ≤ 1000000) :
    Calls Tryz.prog 43 #[.slice a xs.length ca, .slice b ys.length cb, .func (.func 24) #[] #[]] w fun e w' => e = .returned (.bool (decide (xs.map stripX = ys.map stripX))) ∧ Fr w w' := by
  have eg : ∀ args w, (callFunc 24 args).run Tryz.prog w = .ok (.enter 24 args) w := enters_of Tryz.func24 (by kernel_rfl) rfl
  by_cases hlen : xs.length = ys.length
  · have hne : ((xs.length : Int) != ys.length) = false := by rw [hlen]; simp
    obtain ⟨n, hn⟩ : ∃ n, n = xs.length := ⟨_, rfl⟩
    obtain ⟨m, hm⟩ : ∃ m, m = ys.length := ⟨_, rfl⟩
    rw [← hn, ← hm] at hne
    rw [← hn] at hl
    rw [← hn, ← hm]
    have hmn : m ≤ n ∧ n ≤ m := by omega
    obtain ⟨hmn1, hmn2⟩ := hmn
    replace hn := Lib.hid hn
    replace hm := Lib.hid hm
    replace hx := Lib.hid hx
    replace hy := Lib.hid hy
    replace hcx := Lib.hid hcx
    replace hcy := Lib.hid hcy
    replace hlen := Lib.hid hlen
    go_enter Tryz.func43, Tryz.ntmps43
    go_wp2_with fail
    go_loopg [17] n (fun k s17 wr => ∃ j : Nat, s17 = .int .i64 j ∧ j + k = n ∧ Fr w wr ∧ Hid ((xs.take j).map stripX = (ys.take j).map stripX))
    case atStart => exact ⟨0, rfl, by omega, Fr.refl _, rfl⟩
    case round =>
      obtain ⟨j, rfl, hjk, hf, hb⟩ := hrel
      by_cases hj : j < n
      · have hdJ : decide (j < n) = true := decide_eq_true hj
        obtain ⟨xb, xo, x, rfl, hxb, hxj, x1, x2, xe⟩ := (hx.out.fr hf).at (i := j) (by rw [← hn.out]; exact hj)
        obtain ⟨yb, yo, y, rfl, hyb, hyj, y1, y2, ye⟩ := (hy.out.fr hf).at (i := j) (by rw [← hm.out]; omega)
        have hcall := fun W (hW : Fr wr W) => equal_any x y W (xe.fr hW) (ye.fr hW) (hcx.out x (List.mem_of_getElem? hxj)) (hcy.out y (List.mem_of_getElem? hyj))
        have htx := Lib.hid (take_snoc hxj)
        have hty := Lib.hid (take_snoc hyj)
        have hyes : decide (stripX x = stripX y) = true → Hid ((xs.take (j + 1)).map stripX = (ys.take (j + 1)).map stripX) := fun h => by
          show _ = _
          rw [htx.out, hty.out, List.map_append, List.map_append, hb.out]
          simp [of_decide_eq_true h]
        have hno : decide (stripX x = stripX y) = false → Hid (decide (xs.map stripX = ys.map stripX) = false) := fun h => by
          refine decide_eq_false (fun e => of_decide_eq_false h ?_)
          have h1 : (xs.map stripX)[j]? = some (stripX x) := by rw [List.getElem?_map, hxj]; rfl
          rw [e, List.getElem?_map, hyj] at h1
          injection h1 with h1
          exact h1.symm
        generalize decide (stripX x = stripX y) = q at *
        generalize x.cs.length = xl at *
        generalize y.cs.length = yl at *
        generalize x.g = xg at *
        generalize y.g = yg at *
        generalize x.c = xc at *
        generalize y.c = yc at *
        generalize x.i = xi at *
        generalize y.i = yi at *
        have hA : Fr wr (wr.alloc (.cells #[.int .i64 xi, .slice (some ⟨xg, 0, none⟩) xl xc] 42)) := (Fr.refl wr).alloc _
        have hB : Fr wr ((wr.alloc (.cells #[.int .i64 xi, .slice (some ⟨xg, 0, none⟩) xl xc] 42)).alloc (.cells #[.int .i64 yi, .slice (some ⟨yg, 0, none⟩) yl yc] 42)) := hA.alloc _
        have v1 := hA.keep y1
        have v2 := hA.keep y2
        have hc2 := Lib.hid (hcall _ hB)
        replace hyes := Lib.hid hyes
        replace hno := Lib.hid hno
        replace hB := Lib.hid hB
        clear hcall hxj hyj xe ye htx hty hA
        have z1 : (j : Int) < (n : Int) := by omega
        have z3 : (j : Int) < (m : Int) := by omega
        have z0 : (0 : Int) ≤ (j : Int) := by omega
        go_wp2_with fail
        refine hc2.out.mono ?_
        rintro e w3 ⟨rfl, hf3⟩
        have hfw := (hf.trans hB.out).trans hf3
        cases q with
        | true =>
          have hy9 := hyes.out rfl
          go_wp2_with fail
          go_roundg (gk - 1)
          case measure => omega
          case rel => exact ⟨j + 1, by go_num, by omega, hfw, hy9⟩
        | false =>
          have hn9 := hno.out rfl
          go_wp2_with fail
          go_ret
          exact ⟨ret_bool hn9.out.symm, hfw⟩
      · obtain rfl : j = n := by omega
        have hdJ : decide (j < j) = false := decide_eq_false (by omega)
        have hfin := Lib.hid (show decide (xs.map stripX = ys.map stripX) = true from decide_eq_true (by
          have h := hb.out
          rw [List.take_of_length_le (by rw [← hn.out]; exact Nat.le_refl _), List.take_of_length_le (by rw [← hm.out]; omega)] at h
          exact h))
        go_wp2_with fail
        go_ret
        exact ⟨ret_bool hfin.out.symm, hf⟩
  · have hne : ((xs.length : Int) != ys.length) = true := by rw [bne_iff_ne]; omega
    have hfin := Lib.hid (show decide (xs.map stripX = ys.map stripX) = false from decide_eq_false (fun e => hlen (by have := congrArg List.length e; simpa using this)))
    clear hlen
    go_enter Tryz.func43, Tryz.ntmps43
    go_wp2_with fail
    go_ret
    exact ⟨ret_bool hfin.out.symm, Fr.refl _⟩

theorem same_any (xs ys : List BX) (a b : Option Addr) (ca cb : Nat) (w : World) (hx : BXs w a xs) (hy : BXs w b ys) (hl : xs.length ≤ 1000000000) (hl2 : ys.length ≤ 1000000000) (hcx : ∀ x, x ∈ xs → x.cs.length ≤ 1000000) (hcy : ∀ x, x ∈ ys → x.cs.length ≤ 1000000) :
    Calls Tryz.prog 16 #[.slice a xs.length ca, .slice b ys.length cb] w fun e w' => e = .returned (.bool (decide (xs.map stripX = ys.map stripX))) ∧ Fr w w' := by
  have h := EqualFunc_any xs ys a b ca cb w hx hy hl hl2 hcx hcy
  generalize decide (xs.map stripX = ys.map stripX) = q at *
  replace h := Lib.hid h
  clear hx hy
  go_enter Tryz.func16, Tryz.ntmps16
  go_wp2_with fail
  refine h.out.mono ?_
  rintro e w2 ⟨rfl, hf2⟩
  go_wp2_with fail
  go_ret
  exact ⟨rfl, hf2⟩

/-- the bound is not kept -/
def outB (k : Int) (c : Int) : Bool := decide (k < c) || decide (c < -k)
theorem Grows11_any (c k : Int) (p : Nat) (W : World) (hc : W.cell? ⟨p, 0, none⟩ = some (.int .i64 k)) (hk0 : 0 ≤ k) (hk : k ≤ 1000000) :
    Calls Tryz.prog 13 #[.int .i64 c, .pointer (some ⟨p, 0, none⟩)] W fun e W' => e = .returned (.bool (outB k c)) ∧ W = W' := by
  by_cases h1 : k < c
  · have hfin := Lib.hid (show outB k c = true by unfold outB; rw [decide_eq_true h1]; rfl)
    have d1 : decide (k < c) = true := decide_eq_true h1
    clear h1
    go_enter Tryz.func13, Tryz.ntmps13
    go_wp2_with fail
    go_ret
    exact ⟨ret_bool hfin.out.symm, rfl⟩
  · have d1 : decide (k < c) = false := decide_eq_false h1
    have hfin := Lib.hid (show outB k c = decide (c < -k) by unfold outB; rw [d1]; rfl)
    clear h1
    go_enter Tryz.func13, Tryz.ntmps13
    go_wp2_with fail
    go_ret
    exact ⟨ret_bool hfin.out.symm, rfl⟩
set_option maxRecDepth 100000 in
theorem Grows1_any (x : BX) (k : Int) (p : Nat) (W : World) (hc : W.cell? ⟨p, 0, none⟩ = some (.int .i64 k)) (hk0 : 0 ≤ k) (hk : k ≤ 1000000) (hx : El W iv (some ⟨x.g, 0, none⟩) x.cs) (hl : x.cs.length ≤ 1000000) :
    Calls Tryz.prog 11 #[.agg #[.int .i64 x.i, .slice (some ⟨x.g, 0, none⟩) x.cs.length x.c], .pointer (some ⟨p, 0, none⟩)] W fun e W' => e = .returned (.bool (x.cs.any (outB k))) ∧ Fr W W' := by
  have eg : ∀ args w, (callFunc 13 args).run Tryz.prog w = .ok (.enter 13 args) w := enters_of Tryz.func13 (by kernel_rfl) rfl
  have hA : Fr W (W.alloc (.cells #[.int .i64 x.i, .slice (some ⟨x.g, 0, none⟩) x.cs.length x.c] 42)) := (Fr.refl W).alloc _
  have hcf := ContainsFunc_row x.cs (some ⟨x.g, 0, none⟩) x.c 13 #[.pointer (some ⟨p, 0, none⟩)] (outB k) _ eg (hx.fr hA) (by omega) (fun c W' _ hW' => (Grows11_any c k p W' ((hA.trans hW').keep hc) hk0 hk).mono fun e w' h => ⟨h.1, Fr.of_eq h.2⟩)
  generalize x.cs.any (outB k) = q at *
  generalize x.cs.length = xl at *
  replace hcf := Lib.hid hcf
  replace hA := Lib.hid hA
  clear hx eg
  go_enter Tryz.func11, Tryz.ntmps11
  go_wp2_with fail
  refine hcf.out.mono ?_
  rintro e w2 ⟨rfl, hf2⟩
  go_wp2_with fail
  go_ret
  exact ⟨rfl, hA.out.trans hf2⟩
end Go.Proofs.YtphjfalibnnohaaGreatDoor
