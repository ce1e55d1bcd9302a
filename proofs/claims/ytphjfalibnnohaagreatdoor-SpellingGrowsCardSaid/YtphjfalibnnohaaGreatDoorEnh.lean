/- spelling.Enharmonic. -/
import Derived.Test.YtphjfalibnnohaaGreatDoorAll2
import Derived.Test.YtphjfalibnnohaaGreatDoorDel
import Derived.Deep.RegionHeld3
import Derived.Deep.DrawnRows
namespace Go.Proofs.YtphjfalibnnohaaGreatDoor
open Go.RowKit Go.Lib
attribute [local go_sem ↓] Go.wp_at_zero Go.wp_at_succ

theorem El.fxlt {α : Type} {w0 W W' : World} {enc : α → Value} {a : Option Addr} {xs : List α} {g : Nat} (h : El w0 enc a xs) (hf : Fr w0 W) (k : Fx (· = g) W W') (hg : w0.heap.size ≤ g) : El W' enc a xs := by
  rcases h with h | ⟨b, o, ha, hb, hc⟩
  · exact .inl h
  · have hb2 := Nat.lt_of_lt_of_le hb hf.size
    exact .inr ⟨b, o, ha, Nat.lt_of_lt_of_le hb2 k.size, fun i x hx => k.keep (hf.keep (hc i x hx)) (fun e => by have e : b = g := e; omega)⟩

/-- is it another spelling -/
def eqS (s : Int × List Int) (x : BX) : Bool := decide (ordS s (stI (stripX x)) = 0)

set_option maxRecDepth 100000 in
set_option maxHeartbeats 1000000 in
theorem Enh1_any (s : Int × List Int) (ca : Option Addr) (cc p : Nat) (x : BX) (W : World) (hc1 : W.cell? ⟨p, 0, none⟩ = some (.int .i64 s.1)) (hc2 : W.cell? ⟨p, 1, none⟩ = some (.slice ca s.2.length cc)) (hs : El W iv ca s.2) (hx : El W iv (some ⟨x.g, 0, none⟩) x.cs)
    (hl : s.2.length ≤ 64) (hl2 : x.cs.length ≤ 64) (hb : ∀ c, c ∈ s.2 → fitB c = true) (hb2 : ∀ c, c ∈ x.cs → fitB c = true) :
    Calls Tryz.prog 44 #[.agg #[.int .i64 x.i, .slice (some ⟨x.g, 0, none⟩) x.cs.length x.c], .pointer (some ⟨p, 0, none⟩)] W fun e W' => e = .returned (.bool (eqS s x)) ∧ Fr W W' := by
  have hord := fun W' (hW' : Fr W W') => order_any s (stI (stripX x)) ca (some ⟨x.g, 0, none⟩) cc x.c W' (hs.fr hW') (hx.fr hW') hl hl2 hb hb2
  have hq : eqS s x = decide (ordS s (stI (stripX x)) = 0) := rfl
  generalize ordS s (stI (stripX x)) = r at *
  have hA : Fr W (W.alloc (.cells #[.int .i64 x.i, .slice (some ⟨x.g, 0, none⟩) x.cs.length x.c] 42)) := (Fr.refl W).alloc _
  have k1 := hA.keep hc1
  have k2 := hA.keep hc2
  have n1 := new2a W (.int .i64 x.i) (.slice (some ⟨x.g, 0, none⟩) x.cs.length x.c) 42
  have n2 := new2b W (.int .i64 x.i) (.slice (some ⟨x.g, 0, none⟩) x.cs.length x.c) 42
  have hq2 : ((r : Int) == 0) = eqS s x := by rw [hq]; by_cases h : r = 0 <;> simp [h]
  have hcall := hord _ hA
  rw [hq]
  change Calls Tryz.prog 45 #[.agg #[.int .i64 s.1, .slice ca s.2.length cc], .agg #[.int .i64 x.i, .slice (some ⟨x.g, 0, none⟩) x.cs.length x.c]] _ _ at hcall
  generalize x.cs.length = xl at *
  generalize s.2.length = sl at *
  clear hord hs hx hb hb2 hq hc1 hc2
  replace hq2 := Lib.hid hq2
  replace hcall := Lib.hid hcall
  replace hA := Lib.hid hA
  go_enter Tryz.func44, Tryz.ntmps44
  go_wp2_with fail
  refine hcall.out.mono ?_
  rintro e w2 ⟨rfl, hf2⟩
  go_wp2_with fail
  go_ret
  refine ⟨?_, hA.out.trans hf2.fr⟩
  show Ending.returned (.bool (r == 0)) = _
  by_cases h : r = 0 <;> simp [h]

/-- spellings that have come back -/
def SpRetE (w : World) (L : List (Nat × List Int)) (err : Int) (e : Ending) (w' : World) : Prop :=
  (err = 0 → ∃ a c, ∃ xs : List BX, e = .returned (.tuple #[.slice a xs.length c, .int .i64 0]) ∧ Prs w' a (xs.map BX.enc2) ∧ (∀ x, x ∈ xs → El w' iv (some ⟨x.g, 0, none⟩) x.cs) ∧ xs.map stripX = L) ∧ (err ≠ 0 → e = .returned (.tuple #[.slice none 0 0, .int .i64 err])) ∧ Fr w w'
/-- the first error of Enharmonic, the notation being right -/
def enhE (N A : List Sy) (i : Int) (cs : List Int) (most : Int) : Int := if spE N A i cs ≠ 0 then spE N A i cs else boundE N.length A.length most
def enhL (N A : List Sy) (s : Nat × List Int) (m : Nat) : List (Nat × List Int) := (allL N A (sumS N A s) m).filter fun t => !decide (ordS (stI s) (stI t) = 0)

theorem keep_map (s : Int × List Int) (K : List BX) : (keepL (eqS s) K).map stripX = (K.map stripX).filter fun t => !decide (ordS s (stI t) = 0) := by
  unfold keepL; rw [List.filter_map]; rfl
theorem OwnSp.cnt {w : World} {base g c : Nat} {xs : List BX} (h : OwnSp w base (some ⟨g, 0, none⟩) c xs) : Cnt w g (flat2 (xs.map BX.enc2)) ∧ xs.length ≤ c ∧ base ≤ g := by
  obtain ⟨-, h1, h2, h3, h4⟩ := ownsRow_some h.own
  exact ⟨⟨h2, h4⟩, h3, h1⟩
theorem OwnSp.addr {w : World} {base : Nat} {a : Option Addr} {c : Nat} {xs : List BX} (h : OwnSp w base a c xs) : (a = none ∧ c = 0 ∧ xs = []) ∨ ∃ g, a = some ⟨g, 0, none⟩ := by
  rcases h.own.2 with ⟨h1, h2⟩ | ⟨g, cap, cur, hv, _⟩
  · injection h1 with h1 h3 h4
    exact .inl ⟨h1, h4, List.eq_nil_of_length_eq_zero h2⟩
  · injection hv with hv
    exact .inr ⟨g, hv⟩
theorem DeleteFunc_nil (gF : Nat) (lb : Array Value) (W : World) (eg : ∀ args w, (callFunc gF args).run Tryz.prog w = .ok (.enter gF args) w) :
    Calls Tryz.prog 10 #[.slice none 0 0, .func (.func gF) #[] lb] W fun e W' => e = .returned (.slice none 0 0) ∧ Fr W W' := by
  have hIF := IndexFunc_spl BX.enc2 [] none 0 gF lb (fun _ => false) W eg (.inl rfl) (by simp) (fun x W' hm => by simp at hm)
  rw [show idx (fun _ : BX => false) [] = -1 from rfl] at hIF
  replace hIF := Lib.hid hIF
  clear eg
  go_enter Tryz.func10, Tryz.ntmps10
  go_wp2_with fail
  refine hIF.out.mono ?_
  rintro e w1 ⟨rfl, hf1⟩
  go_wp2_with fail
  go_ret
  exact ⟨rfl, hf1⟩
/-- DeleteFunc of the spellings that another one is -/
theorem DelEnh (s : Int × List Int) (ca : Option Addr) (cc p : Nat) (a : Option Addr) (c : Nat) (K : List BX) (base : Nat) (w0 W : World) (hown : OwnSp W base a c K) (hw0 : Fr w0 W) (hb0 : w0.heap.size ≤ base) (hp : p < w0.heap.size) (hc1 : w0.cell? ⟨p, 0, none⟩ = some (.int .i64 s.1)) (hc2 : w0.cell? ⟨p, 1, none⟩ = some (.slice ca s.2.length cc)) (hs : El w0 iv ca s.2)
    (hl : s.2.length ≤ 64) (hb : ∀ c, c ∈ s.2 → fitB c = true) (hl2 : ∀ x, x ∈ K → x.cs.length ≤ 64) (hb2 : ∀ x, x ∈ K → ∀ c, c ∈ x.cs → fitB c = true) (hK : K.length ≤ 1000000) :
    Calls Tryz.prog 10 #[.slice a K.length c, .func (.func 44) #[] #[.pointer (some ⟨p, 0, none⟩)]] W fun e W' => ∃ c' : Nat, ∃ K' : List BX, K' = keepL (eqS s) K ∧ e = .returned (.slice a K'.length c') ∧ Prs W' a (K'.map BX.enc2) ∧ (∀ x, x ∈ K' → El W' iv (some ⟨x.g, 0, none⟩) x.cs) ∧ Fr w0 W' := by
  have eg : ∀ args w, (callFunc 44 args).run Tryz.prog w = .ok (.enter 44 args) w := enters_of Tryz.func44 (by kernel_rfl) rfl
  rcases hown.addr with ⟨rfl, rfl, rfl⟩ | ⟨g, rfl⟩
  · refine (DeleteFunc_nil 44 #[.pointer (some ⟨p, 0, none⟩)] W eg).mono ?_
    rintro e W' ⟨rfl, hf⟩
    exact ⟨0, [], rfl, rfl, .inl rfl, fun x hx => by simp at hx, hw0.trans hf⟩
  · obtain ⟨hcnt, hcap, hg⟩ := hown.cnt
    refine (DeleteFunc_spl BX.enc2 K g c 44 #[.pointer (some ⟨p, 0, none⟩)] (eqS s) W eg hcnt (by omega) hcap (fun x => ⟨_, _, _, _, rfl⟩) (fun x hx W' hW' => ?_)).mono ?_
    · obtain ⟨e1, e2, e3, e4⟩ := hown.el x hx
      have hpg : ¬ p = g := by omega
      exact Enh1_any s ca cc p x W' (hW'.keep (hw0.keep hc1) hpg) (hW'.keep (hw0.keep hc2) hpg) (hs.fxlt hw0 hW' (by omega)) (e4.fx hW' (fun e => e3 (by rw [show x.g = g from e]; rfl))) hl (hl2 x hx) hb (hb2 x hx)
    · rintro e W' ⟨rfl, h1, h2⟩
      refine ⟨c, _, rfl, rfl, h1, fun x hx => ?_, ((Fx.of_fr hw0).trans h2).toFr (fun k hk e => by have e : k = g := e; omega)⟩
      obtain ⟨e1, e2, e3, e4⟩ := hown.el x (List.mem_filter.1 hx).1
      exact e4.fx h2 (fun e => e3 (by rw [show x.g = g from e]; rfl))

set_option maxRecDepth 100000 in
set_option maxHeartbeats 4000000 in
theorem Enharmonic_any (d : Nat) (aN aA : Option Addr) (cN cA : Nat) (N A : List Sy) (x : Sp) (most : Int) (w : World) (hn : NotIs w aN aA cA N A) (hok : NotOk d N A) (hd : 1 ≤ d) (hcs : El w iv x.ca x.cs) (hl : x.cs.length ≤ 1000000000) (hm : boundE N.length A.length most = 0 → most ≤ 20000) :
    Calls Tryz.prog 18 #[.agg #[.slice aN N.length cN, .slice aA A.length cA], .agg #[.int .i64 x.i, .slice x.ca x.cs.length x.cc], .int .i64 most] w (SpRetE w (enhL N A (x.i.toNat, x.cs) most.toNat) (enhE N A x.i x.cs most)) := by
  have hn60 := hok.n60
  have ha6 := hok.a6
  have hd12 := hok.d12
  have hop := fun W (hW : Fr w W) => open_any d aN aA cN cA N A [x] (some ⟨W.heap.size, 0, none⟩) 1 (W.alloc (.cells #[.int .i64 x.i, .slice x.ca x.cs.length x.cc] 42)) (hn.fr (hW.alloc _)) hok (Sps.one W x _ (hcs.fr hW)) (by simp) (by simp; exact hl)
  simp only [spsE, List.length_cons, List.length_nil, Nat.zero_add] at hop
  have hbnd := fun W => bound_any aN aA cN cA N.length A.length most W (by omega) (by omega)
  by_cases h0 : spE N A x.i x.cs = 0
  · obtain ⟨i1, i2, i3, i4⟩ := spE_inv h0
    obtain ⟨xi, hxi⟩ : ∃ xi : Nat, x.i = xi := ⟨x.i.toNat, by omega⟩
    by_cases h1 : boundE N.length A.length most = 0
    · have h1p : 0 ≤ most := by
        by_cases h : most < 0
        · unfold boundE at h1; rw [if_pos h] at h1; omega
        · omega
      have h2 := hm h1
      obtain ⟨m, rfl⟩ : ∃ m : Nat, most = m := ⟨most.toNat, by omega⟩
      have h3 := boundE_size hn60 h1
      have hsum := fun W (hW : Fr w W) => sum_any d aN aA cN cA N A xi x.cs x.ca x.cc W (hn.fr hW) hok hd (by omega) (hcs.fr hW) i3 i4
      have hSl := sumS_length hok (i := xi) (by omega) x.cs
      have hall := fun W (hW : Fr w W) a c (hel : El W iv a (sumS N A (xi, x.cs))) => all_any d aN aA cN cA N A (sumS N A (xi, x.cs)) a c m W (hn.fr hW) hok hd hel (by omega) (by omega) (by rw [boxL_size]; omega)
      have hmem : ∀ K : List BX, K.map stripX = sortS ((boxL m A.length N.length).filter fun s => decide (sumS N A s = sumS N A (xi, x.cs))) → K.length ≤ 1000000 ∧ ∀ y, y ∈ K → y.cs.length ≤ 64 ∧ ∀ c, c ∈ y.cs → fitB c = true := fun K hK => by
        have hl9 := (sortS_perm ((boxL m A.length N.length).filter fun s => decide (sumS N A s = sumS N A (xi, x.cs)))).length_eq
        rw [← hK, List.length_map] at hl9
        have hl8 := List.length_filter_le (fun s => decide (sumS N A s = sumS N A (xi, x.cs))) (boxL m A.length N.length)
        rw [boxL_size] at hl8
        refine ⟨by omega, fun y hy => ?_⟩
        have hy2 : stripX y ∈ K.map stripX := List.mem_map_of_mem hy
        rw [hK] at hy2
        obtain ⟨-, m2, m3⟩ := boxL_mem (List.mem_filter.1 ((sortS_perm _).mem_iff.1 hy2)).1
        have m2 : y.cs.length = A.length := m2
        exact ⟨by omega, fun c hc => by have := m3 c hc; unfold fitB; exact decide_eq_true (by omega)⟩
      have hres : enhL N A (x.i.toNat, x.cs) (m : Int).toNat = (sortS ((boxL m A.length N.length).filter fun s => decide (sumS N A s = sumS N A (xi, x.cs)))).filter fun t => !decide (ordS (x.i, x.cs) (stI t) = 0) := by
        unfold enhL allL
        rw [hxi]
        rfl
      have hres2 : enhE N A x.i x.cs (m : Int) = 0 := by unfold enhE; rw [if_neg (by simp [h0]), h1]
      have hcl64 : x.cs.length ≤ 64 := by omega
      rw [hres, hres2]
      simp only [h0, if_true] at hop
      rw [h1] at hbnd
      rw [← hSl] at hd12
      generalize sortS ((boxL m A.length N.length).filter fun s => decide (sumS N A s = sumS N A (xi, x.cs))) = L at *
      generalize sumS N A (xi, x.cs) = R at *
      generalize N.length = nN at *
      generalize A.length = nA at *
      rw [hxi] at hop
      rw [hxi]
      have hdel := fun (a : Option Addr) (c : Nat) (K : List BX) (base : Nat) (w0 W : World) (p : Nat) (h1 : OwnSp W base a c K) (h2 : Fr w0 W) (h3 : w0.heap.size ≤ base) (h4 : p < w0.heap.size) (h5 : w0.cell? ⟨p, 0, none⟩ = some (.int .i64 xi)) (h6 : w0.cell? ⟨p, 1, none⟩ = some (.slice x.ca x.cs.length x.cc)) (hw : Fr w w0) (hK : K.map stripX = L) => DelEnh ((xi : Int), x.cs) x.ca x.cc p a c K base w0 W h1 h2 h3 h4 h5 h6 (hcs.fr hw) hcl64 i4 (fun y hy => ((hmem K hK).2 y hy).1) (fun y hy => ((hmem K hK).2 y hy).2) (hmem K hK).1
      generalize x.cs.length = cl at *
      generalize x.ca = ca at *
      generalize x.cc = cc at *
      replace hop := Lib.hid hop
      replace hsum := Lib.hid hsum
      replace hall := Lib.hid hall
      replace hdel := Lib.hid hdel
      replace hbnd := Lib.hid hbnd
      clear hn hok hcs i1 i2 i3 i4 hxi hmem hres hres2 hm h0 h1 h2 h3 hSl
      have b1 := new2a w (.slice aN nN cN) (.slice aA nA cA) 30
      have b2 := new2b w (.slice aN nN cN) (.slice aA nA cA) 30
      have hfa : Fr (w.alloc (.cells #[.slice aN nN cN, .slice aA nA cA] 30)) ((w.alloc (.cells #[.slice aN nN cN, .slice aA nA cA] 30)).alloc (.cells #[.int .i64 xi, .slice ca cl cc] 42)) := (Fr.refl _).alloc _
      have b3 := new2a (w.alloc (.cells #[.slice aN nN cN, .slice aA nA cA] 30)) (.int .i64 xi) (.slice ca cl cc) 42
      have b4 := new2b (w.alloc (.cells #[.slice aN nN cN, .slice aA nA cA] 30)) (.int .i64 xi) (.slice ca cl cc) 42
      rw [show (w.alloc (.cells #[.slice aN nN cN, .slice aA nA cA] 30)).heap.size = w.heap.size + 1 by simp] at b3 b4
      replace b1 := Lib.hid (hfa.keep b1.1)
      replace b2 := Lib.hid (hfa.keep b2.1)
      replace b3 := Lib.hid b3.1
      replace b4 := Lib.hid b4.1
      have hfb : Fr w _ := ((Fr.refl w).alloc _).trans hfa
      replace hfb := Lib.hid hfb
      have hsB := hfb.out.size
      clear hfa
      have hop1 := hop.out _ hfb.out
      rw [show ((w.alloc (.cells #[.slice aN nN cN, .slice aA nA cA] 30)).alloc (.cells #[.int .i64 xi, .slice ca cl cc] 42)).heap.size = w.heap.size + 2 by simp] at hop1
      replace hop1 := Lib.hid hop1
      clear hop
      go_enter Tryz.func18, Tryz.ntmps18
      go_wp2_with fail
      refine hop1.out.mono ?_
      rintro e w1 ⟨rfl, hf1⟩
      have hfc := ((Fr.refl _).alloc _).trans hf1
      have q1 := hfc.keep b1.out
      have q2 := hfc.keep b2.out
      have q3 := hfc.keep b3.out
      have q4 := hfc.keep b4.out
      have hfd := hfb.out.trans hfc
      clear hfc hf1 b1 b2 b3 b4 hfb
      go_wp2_with fail
      refine (hbnd.out _).mono ?_
      rintro e w2 ⟨rfl, hf2⟩
      replace q1 := hf2.keep q1
      replace q2 := hf2.keep q2
      replace q3 := hf2.keep q3
      replace q4 := hf2.keep q4
      have hfe := hfd.trans hf2
      have hbs := World.block_lt_of_cell? w2 _ q3
      clear hf2 hfd
      go_wp2_with fail
      go_region_held3 (fun w' => w'.cell? ⟨w.heap.size, 0, none⟩ = some (.slice aN nN cN) ∧ w'.cell? ⟨w.heap.size, 1, none⟩ = some (.slice aA nA cA) ∧ w'.cell? ⟨w.heap.size + 1, 0, none⟩ = some (.int .i64 xi) ∧ w'.cell? ⟨w.heap.size + 1, 1, none⟩ = some (.slice ca cl cc))
        (first | go_keep | (go_split_ands; refine ⟨?_, ?_, ?_, ?_⟩ <;> (refine Fr.keep (by assumption) ?_; assumption)))
        (first
          | (go_at_call 42; (with_reducible refine (hsum.out _ ?_).mono ?_); (repeat (with_reducible first | assumption | exact Fr.refl _ | refine Fr.drew ?_ | refine Fr.drewN ?_ _ | refine Fr.alloc ?_ _ | (refine Fr.setCell ?_ (by simp only [World.size_alloc, World.size_drew, World.size_setCell]; omega) _) | refine Fr.trans ?_ (by assumption))); rintro e w3 ⟨g1, c1, rfl, hg1, hel1, hf3⟩)
          | (go_at_call 38; have hz3 : Fr w w3 := (by repeat (with_reducible first | assumption | exact Fr.refl _ | refine Fr.drew ?_ | refine Fr.drewN ?_ _ | refine Fr.alloc ?_ _ | (refine Fr.setCell ?_ (by simp only [World.size_alloc, World.size_drew, World.size_setCell]; omega) _) | refine Fr.trans ?_ (by assumption))); refine (hall.out w3 hz3 _ _ hel1).mono ?_; rintro e w4 ⟨a4, c4, K, rfl, hown4, hK4, hf4⟩; clear hz3; replace hK4 := Lib.hid hK4)
          | (go_at_call 10; have hz4 : Fr w2 w4 := (by repeat (with_reducible first | assumption | exact Fr.refl _ | refine Fr.drew ?_ | refine Fr.drewN ?_ _ | refine Fr.alloc ?_ _ | (refine Fr.setCell ?_ (by simp only [World.size_alloc, World.size_drew, World.size_setCell]; omega) _) | refine Fr.trans ?_ (by assumption))); have hz6 : Fr w2 w3 := (by repeat (with_reducible first | assumption | exact Fr.refl _ | refine Fr.drew ?_ | refine Fr.drewN ?_ _ | refine Fr.alloc ?_ _ | (refine Fr.setCell ?_ (by simp only [World.size_alloc, World.size_drew, World.size_setCell]; omega) _) | refine Fr.trans ?_ (by assumption))); have hz5 := hz6.size; refine (hdel.out a4 c4 K w3.heap.size w2 w4 (w.heap.size + 1) hown4 hz4 hz5 hbs q3 q4 hfe hK4.out).mono ?_; rintro e w5 ⟨c5, K5, hK5, rfl, hp5, he5, hf5⟩; replace hK5 := Lib.hid hK5; replace he5 := Lib.hid he5))
      all_goals
        have hmap := keep_map ((xi : Int), x.cs) K
        rw [← hK5.out, hK4.out] at hmap
        replace hmap := Lib.hid hmap
        go_wp2_with fail
        go_ret2
        exact ⟨fun _ => ⟨a4, c5, K5, rfl, hp5, he5.out, hmap.out⟩, fun h => absurd rfl h, hfe.trans hf5⟩
    · have hres2 : enhE N A x.i x.cs most = boundE N.length A.length most := by unfold enhE; rw [if_neg (by simp [h0])]
      rw [hres2]
      simp only [h0, if_true] at hop
      generalize enhL N A (x.i.toNat, x.cs) most.toNat = LL
      generalize boundE N.length A.length most = be at *
      generalize N.length = nN at *
      generalize A.length = nA at *
      generalize x.cs.length = cl at *
      generalize x.ca = ca at *
      generalize x.cc = cc at *
      generalize x.i = xi9 at *
      have q9 : (be != 0) = true := by rw [bne_iff_ne]; exact h1
      replace hop := Lib.hid hop
      replace hbnd := Lib.hid hbnd
      clear hn hok hcs i1 i2 i3 i4 hxi hres2 hm h0
      have b1 := new2a w (.slice aN nN cN) (.slice aA nA cA) 30
      have b2 := new2b w (.slice aN nN cN) (.slice aA nA cA) 30
      have hfa : Fr (w.alloc (.cells #[.slice aN nN cN, .slice aA nA cA] 30)) ((w.alloc (.cells #[.slice aN nN cN, .slice aA nA cA] 30)).alloc (.cells #[.int .i64 xi9, .slice ca cl cc] 42)) := (Fr.refl _).alloc _
      have b3 := new2a (w.alloc (.cells #[.slice aN nN cN, .slice aA nA cA] 30)) (.int .i64 xi9) (.slice ca cl cc) 42
      have b4 := new2b (w.alloc (.cells #[.slice aN nN cN, .slice aA nA cA] 30)) (.int .i64 xi9) (.slice ca cl cc) 42
      rw [show (w.alloc (.cells #[.slice aN nN cN, .slice aA nA cA] 30)).heap.size = w.heap.size + 1 by simp] at b3 b4
      replace b1 := Lib.hid (hfa.keep b1.1)
      replace b2 := Lib.hid (hfa.keep b2.1)
      replace b3 := Lib.hid b3.1
      replace b4 := Lib.hid b4.1
      have hfb : Fr w _ := ((Fr.refl w).alloc _).trans hfa
      replace hfb := Lib.hid hfb
      have hsB := hfb.out.size
      clear hfa
      have hop1 := hop.out _ hfb.out
      rw [show ((w.alloc (.cells #[.slice aN nN cN, .slice aA nA cA] 30)).alloc (.cells #[.int .i64 xi9, .slice ca cl cc] 42)).heap.size = w.heap.size + 2 by simp] at hop1
      replace hop1 := Lib.hid hop1
      clear hop
      go_enter Tryz.func18, Tryz.ntmps18
      go_wp2_with fail
      refine hop1.out.mono ?_
      rintro e w1 ⟨rfl, hf1⟩
      have hfc := ((Fr.refl _).alloc _).trans hf1
      have q1 := hfc.keep b1.out
      have q2 := hfc.keep b2.out
      have hfd := hfb.out.trans hfc
      clear hfc hf1 b1 b2 b3 b4 hfb
      go_wp2_with fail
      refine (hbnd.out _).mono ?_
      rintro e w2 ⟨rfl, hf2⟩
      go_wp2_with fail
      go_ret2
      exact ⟨fun h => absurd h h1, fun _ => rfl, hfd.trans hf2⟩
  · have hres2 : enhE N A x.i x.cs most = spE N A x.i x.cs := by unfold enhE; rw [if_pos h0]
    rw [hres2]
    simp only [if_neg h0] at hop
    generalize enhL N A (x.i.toNat, x.cs) most.toNat = LL
    generalize spE N A x.i x.cs = er at *
    generalize N.length = nN at *
    generalize A.length = nA at *
    generalize x.cs.length = cl at *
    generalize x.ca = ca at *
    generalize x.cc = cc at *
    generalize x.i = xi9 at *
    have q9 : (er != 0) = true := by rw [bne_iff_ne]; exact h0
    replace hop := Lib.hid hop
    clear hn hok hcs hres2 hm hbnd
    have b1 := new2a w (.slice aN nN cN) (.slice aA nA cA) 30
    have b2 := new2b w (.slice aN nN cN) (.slice aA nA cA) 30
    have hfa : Fr (w.alloc (.cells #[.slice aN nN cN, .slice aA nA cA] 30)) ((w.alloc (.cells #[.slice aN nN cN, .slice aA nA cA] 30)).alloc (.cells #[.int .i64 xi9, .slice ca cl cc] 42)) := (Fr.refl _).alloc _
    have b3 := new2a (w.alloc (.cells #[.slice aN nN cN, .slice aA nA cA] 30)) (.int .i64 xi9) (.slice ca cl cc) 42
    have b4 := new2b (w.alloc (.cells #[.slice aN nN cN, .slice aA nA cA] 30)) (.int .i64 xi9) (.slice ca cl cc) 42
    rw [show (w.alloc (.cells #[.slice aN nN cN, .slice aA nA cA] 30)).heap.size = w.heap.size + 1 by simp] at b3 b4
    replace b1 := Lib.hid (hfa.keep b1.1)
    replace b2 := Lib.hid (hfa.keep b2.1)
    replace b3 := Lib.hid b3.1
    replace b4 := Lib.hid b4.1
    have hfb : Fr w _ := ((Fr.refl w).alloc _).trans hfa
    replace hfb := Lib.hid hfb
    have hsB := hfb.out.size
    clear hfa
    have hop1 := hop.out _ hfb.out
    rw [show ((w.alloc (.cells #[.slice aN nN cN, .slice aA nA cA] 30)).alloc (.cells #[.int .i64 xi9, .slice ca cl cc] 42)).heap.size = w.heap.size + 2 by simp] at hop1
    replace hop1 := Lib.hid hop1
    clear hop
    go_enter Tryz.func18, Tryz.ntmps18
    go_wp2_with fail
    refine hop1.out.mono ?_
    rintro e w1 ⟨rfl, hf1⟩
    have hfd := hfb.out.trans (((Fr.refl _).alloc _).trans hf1)
    go_wp2_with fail
    go_ret2
    exact ⟨fun h => absurd h h0, fun _ => rfl, hfd⟩
end Go.Proofs.YtphjfalibnnohaaGreatDoor
