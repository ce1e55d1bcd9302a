/- spelling.all. -/
import Derived.Test.YtphjfalibnnohaaGreatDoorBound
import Derived.Test.YtphjfalibnnohaaGreatDoorOrder2
import Derived.Test.YtphjfalibnnohaaGreatDoorSort
import Derived.Test.YtphjfalibnnohaaGreatDoorOwn
import Derived.Maps.OwnIn
import Derived.Stop.RegionWithIn
namespace Go.Proofs.YtphjfalibnnohaaGreatDoor
open Go.RowKit Go.Lib Go.Shelf
attribute [local go_sem] Oper.semAt_some

theorem box_any (aN aA : Option Addr) (n cN k cA : Nat) (m : Int) (w : World) :
    Calls Tryz.prog 72 #[.agg #[.slice aN n cN, .slice aA k cA], .int .i64 m] w fun e w' => e = .returned (.func (.func 100) #[] #[.pointer (some ⟨w.heap.size, 0, none⟩), .pointer (some ⟨w.heap.size + 1, 0, none⟩)]) ∧ (w.alloc (.cells #[.slice aN n cN, .slice aA k cA] 30)).alloc (.cells #[.int .i64 m] 3) = w' := by
  go_enter Tryz.func72, Tryz.ntmps72
  go_wp2_with fail
  go_ret
  exact ⟨rfl, rfl⟩

theorem infoSp : (Tryz.prog.info? 42).map (fun i => (i.zero, i.size, i.bytes)) = some (some (.agg #[.int .i64 0, .slice none 0 0]), 2, 32) := by kernel_rfl

/-- those of the row -/
def keepP (N A : List Sy) (R : List Int) (x : BX) : Bool := decide (sumS N A (stripX x) = R)

/-- what all holds between two rounds: W0 is the loop's first world, out's box is block Bo -/
structure AllI (W0 : World) (Bo : Nat) (p : Nat → Prop) (xs : List BX) (W : World) : Prop where
  fx : Fx (· = Bo) W0 W
  pD : ∀ k, p k → W0.heap.size + 2 ≤ k
  out : ∃ v, W.cell? ⟨Bo, 0, none⟩ = some v ∧ W.frozen? ⟨Bo, 0, none⟩ = false ∧ W.ownsRow (W0.heap.size + 2) 42 2 v xs.length (flat2 (xs.map BX.enc2)) ∧ (∀ g, v.ownBlock = some g → ¬ p g ∧ g < W.heap.size) ∧ (xs = [] → v = .slice none 0 0)
  el : ∀ x, x ∈ xs → W0.heap.size + 2 ≤ x.g ∧ ¬ p x.g ∧ RowAt W x

theorem AllI.step {W0 : World} {Bo : Nat} {p p' : Nat → Prop} {xs : List BX} {W W' : World} (h : AllI W0 Bo p xs W) (hBo : Bo < W0.heap.size) (k : Fx (fun k => p k ∨ k = W0.heap.size ∨ k = W0.heap.size + 1) W W') (hp : ∀ k, p' k → p k ∨ (W.heap.size ≤ k ∧ k < W'.heap.size)) (hp2 : ∀ k, p' k → W0.heap.size + 2 ≤ k) : AllI W0 Bo p' xs W' := by
  obtain ⟨v, h1, h2, h3, h4, h5⟩ := h.out
  have hlow : ∀ j, j < W0.heap.size → ¬ (p j ∨ j = W0.heap.size ∨ j = W0.heap.size + 1) := fun j hj e => by
    rcases e with e | e | e
    · have := h.pD j e; omega
    · omega
    · omega
  refine ⟨⟨k.os.trans h.fx.os, k.tape.trans h.fx.tape, k.output.trans h.fx.output, Nat.le_trans h.fx.size k.size, fun j hj hne => (k.block j (Nat.lt_of_lt_of_le hj h.fx.size) (hlow j hj)).trans (h.fx.block j hj hne)⟩, hp2, ⟨v, k.keep h1 (hlow Bo hBo), k.keepf h1 h2 (hlow Bo hBo), ownsRow_fx h3 k (fun g hg e => ?_), fun g hg => ?_, h5⟩, fun x hx => ?_⟩
  · have hb := ownsRow_own_ge h3 g hg
    rcases e with e | e | e
    · exact (h4 g hg).1 e
    · omega
    · omega
  · refine ⟨fun e => ?_, Nat.lt_of_lt_of_le (h4 g hg).2 k.size⟩
    rcases hp g e with e | e
    · exact (h4 g hg).1 e
    · have := (h4 g hg).2; omega
  · obtain ⟨a, c, d⟩ := h.el x hx
    have b := d.lt
    refine ⟨a, fun e => ?_, d.fx k (fun e => ?_)⟩
    · rcases hp _ e with e | e
      · exact c e
      · omega
    · rcases e with e | e | e
      · exact c e
      · omega
      · omega

theorem AllI.push {W0 W w2 w3 : World} {Bo : Nat} {p : Nat → Prop} {K : List BX} {v : Value} {o : Obj} {g9 cap9 : Nat} {x : BX} {news : List Value} (hBo : Bo < W0.heap.size) (x6 : Fx (· = Bo) W0 W) (x5 : ∀ k, p k → W0.heap.size + 2 ≤ k) (x4 : ∀ z, z ∈ K → W0.heap.size + 2 ≤ z.g ∧ ¬ p z.g ∧ RowAt W z)
    (o4 : ∀ g, v.ownBlock = some g → ¬ p g ∧ g < W.heap.size) (hp : ∀ k, p k → k < W.heap.size) (hfZ : Fr W w2) (y6 : w2.ownsRow (W0.heap.size + 2) 42 2 v K.length (flat2 (K.map BX.enc2)))
    (hFx : Fx (fun k => v.ownBlock = some k) (w2.alloc o) w3) (hown : w3.ownsRow (W0.heap.size + 2) 42 2 (.slice (some ⟨g9, 0, none⟩) (K.length + 1) cap9) (K.length + 1) (flat2 (K.map BX.enc2) ++ news)) (hnews : news = flat2 [x.enc2])
    (hat : (Value.slice (some ⟨g9, 0, none⟩) (K.length + 1) cap9).ownBlock = v.ownBlock ∨ (Value.slice (some ⟨g9, 0, none⟩) (K.length + 1) cap9).ownBlock = some (w2.alloc o).heap.size) (u1 : w3.cell? ⟨Bo, 0, none⟩ = some v) (u2 : w3.frozen? ⟨Bo, 0, none⟩ = false)
    (b5 : W0.heap.size + 2 ≤ x.g) (b7 : ¬ p x.g) (b8 : RowAt W x) :
    AllI W0 Bo p (K ++ [x]) (w3.setCell ⟨Bo, 0, none⟩ (.slice (some ⟨g9, 0, none⟩) (K.length + 1) cap9)) ∧ Fx (fun k => v.ownBlock = some k ∨ k = Bo) W (w3.setCell ⟨Bo, 0, none⟩ (.slice (some ⟨g9, 0, none⟩) (K.length + 1) cap9)) := by
  subst hnews
  have hvo : ∀ k, v.ownBlock = some k → W0.heap.size + 2 ≤ k := fun k hk => ownsRow_own_ge y6 k hk
  have hfA : Fr W (w2.alloc o) := hfZ.alloc o
  obtain ⟨-, hg1, hg2, -, -⟩ := ownsRow_some hown
  have hF1 : Fx (fun k => v.ownBlock = some k ∨ k = Bo) W w3 := (Fx.of_fr hfA).trans (hFx.mono fun k e => .inl e)
  have hF2 := hF1.setCell (q := ⟨Bo, 0, none⟩) (.inl (.inr rfl)) (.slice (some ⟨g9, 0, none⟩) (K.length + 1) cap9)
  have hS : Fx (· = Bo) w3 (w3.setCell ⟨Bo, 0, none⟩ (.slice (some ⟨g9, 0, none⟩) (K.length + 1) cap9)) := Fx.setCell (p := (· = Bo)) (q := ⟨Bo, 0, none⟩) (Fx.refl _ w3) (.inl rfl) _
  refine ⟨⟨⟨hF2.os.trans x6.os, hF2.tape.trans x6.tape, hF2.output.trans x6.output, Nat.le_trans x6.size hF2.size, fun j hj hne => (hF2.block j (Nat.lt_of_lt_of_le hj x6.size) (fun e => ?_)).trans (x6.block j hj hne)⟩, x5, ⟨_, World.cell?_setCell_same' _ _ _ (by rw [u1]; rfl), by rw [World.frozen?_setCell]; exact u2, ?_, fun g hg => ?_, fun h => by simp at h⟩, fun z hz => ?_⟩, hF2⟩
  · rcases e with e | e
    · have := hvo j e; omega
    · exact hne e
  · rw [List.map_append, flat2_append, List.length_append]
    exact ownsRow_fx hown hS (fun g hg e => by
      have e : g = Bo := e
      have h2 : g9 = g := by simpa [Value.ownBlock] using hg
      omega)
  · have h2 : g9 = g := by simpa [Value.ownBlock] using hg
    subst h2
    refine ⟨fun e => ?_, Nat.lt_of_lt_of_le hg2 hS.size⟩
    rcases hat with h | h
    · exact (o4 g9 (by rw [← h]; exact hg)).1 e
    · have h3 : g9 = (w2.alloc o).heap.size := by simpa [Value.ownBlock] using h
      have := hp g9 e
      have := hfA.size
      omega
  · have key : ∀ z : BX, W0.heap.size + 2 ≤ z.g → ¬ p z.g → RowAt W z → W0.heap.size + 2 ≤ z.g ∧ ¬ p z.g ∧ RowAt (w3.setCell ⟨Bo, 0, none⟩ (.slice (some ⟨g9, 0, none⟩) (K.length + 1) cap9)) z := fun z h1 h2 h3 => ⟨h1, h2, h3.fx hF2 (fun e => by
      rcases e with e | e
      · exact (h3.fr hfZ).ne y6 e
      · omega)⟩
    rcases List.mem_append.1 hz with h | h
    · obtain ⟨z1, z2, z3⟩ := x4 z h
      exact key z z1 z2 z3
    · simp at h
      subst h
      exact key z b5 b7 b8

theorem cell_two_new (w : World) (x y : Value) (t : TypeId) : ∀ (j : Nat) (u : Value), [x, y][j]? = some u → (w.alloc (.cells #[x, y] t)).cell? ((⟨w.heap.size, 0, none⟩ : Addr).add j) = some u := fun j u hu => by
  match j, hu with
  | 0, hu => simp at hu; subst hu; exact (new2a w x y t).1
  | 1, hu => simp at hu; subst hu; exact (new2b w x y t).1
  | j + 2, hu => simp at hu
theorem new_s (w : World) (a : Option Addr) (n c : Nat) (t : TypeId) : (w.alloc (.cells #[.slice a n c] t)).cell? ⟨w.heap.size, 0, none⟩ = some (.slice a n c) ∧ (w.alloc (.cells #[.slice a n c] t)).frozen? ⟨w.heap.size, 0, none⟩ = false := new1 w _ t

/-- spellings in a row of the call's own -/
structure OwnSp (w : World) (base : Nat) (a : Option Addr) (c : Nat) (xs : List BX) : Prop where
  own : w.ownsRow base 42 2 (.slice a xs.length c) xs.length (flat2 (xs.map BX.enc2))
  el : ∀ x, x ∈ xs → base ≤ x.g ∧ x.g < w.heap.size ∧ (Value.slice a xs.length c).ownBlock ≠ some x.g ∧ El w iv (some ⟨x.g, 0, none⟩) x.cs
def AllRet (w : World) (L : List (Nat × List Int)) (e : Ending) (w' : World) : Prop := ∃ a c xs, e = .returned (.slice a xs.length c) ∧ OwnSp w' w.heap.size a c xs ∧ xs.map stripX = L ∧ Fr w w'

set_option maxRecDepth 100000 in
set_option maxHeartbeats 4000000 in
theorem all_any (d : Nat) (aN aA : Option Addr) (cN cA : Nat) (N A : List Sy) (R : List Int) (ra : Option Addr) (rc m : Nat) (w : World) (hn : NotIs w aN aA cA N A) (hok : NotOk d N A) (hd : 1 ≤ d) (hR : El w iv ra R) (hRl : R.length ≤ 1000000) (hm : m ≤ 20000) (hbox : (boxL m A.length N.length).length ≤ 1000000) :
    Calls Tryz.prog 38 #[.agg #[.slice aN N.length cN, .slice aA A.length cA], .slice ra R.length rc, .int .i64 m] w (AllRet w (sortS ((boxL m A.length N.length).filter fun s => decide (sumS N A s = R)))) := by
  have hn60 := hok.n60
  have ha6 := hok.a6
  obtain ⟨i0, hi, hz0, hz1, hz2⟩ := info_parts infoSp
  refine (callsIn_wide (n := 4)).1 ?_
  refine callsIn_of_wp_marks Tryz.func38 rfl trivial ?_ rfl
  simp only [Tryz.ntmps38, List.size_toArray, List.length_cons, List.length_nil, Nat.reduceAdd, Nat.reduceSub, Array.replicate_succ, Array.replicate_zero, List.push_toArray, List.append_toArray, List.nil_append, List.cons_append]
  obtain ⟨nN, hnN⟩ : ∃ nN, nN = N.length := ⟨_, rfl⟩
  obtain ⟨nA, hnA⟩ : ∃ nA, nA = A.length := ⟨_, rfl⟩
  obtain ⟨nR, hnR⟩ : ∃ nR, nR = R.length := ⟨_, rfl⟩
  rw [← hnN, ← hnA] at hbox
  rw [← hnN] at hn60
  rw [← hnA] at ha6
  rw [← hnR] at hRl
  rw [← hnN, ← hnA, ← hnR]
  replace hnN := Lib.hid hnN
  replace hnA := Lib.hid hnA
  replace hnR := Lib.hid hnR
  replace hn := Lib.hid hn
  replace hok := Lib.hid hok
  replace hR := Lib.hid hR
  obtain ⟨wA, hwA⟩ : ∃ wA, wA = ((w.alloc (.cells #[.slice aN nN cN, .slice aA nA cA] 30)).alloc (.cells #[.slice ra nR rc] 32)).alloc (.cells #[.slice none 0 0] 36) := ⟨_, rfl⟩
  have hfA : Fr w wA := by rw [hwA]; exact (((Fr.refl w).alloc _).alloc _).alloc _
  have hsA : wA.heap.size = w.heap.size + 3 := by rw [hwA]; simp
  have a1 := new2a w (.slice aN nN cN) (.slice aA nA cA) 30
  have a2 := new2b w (.slice aN nN cN) (.slice aA nA cA) 30
  have a3 := new_s (w.alloc (.cells #[.slice aN nN cN, .slice aA nA cA] 30)) ra nR rc 32
  have a4 := new_s ((w.alloc (.cells #[.slice aN nN cN, .slice aA nA cA] 30)).alloc (.cells #[.slice ra nR rc] 32)) none 0 0 36
  rw [show (w.alloc (.cells #[.slice aN nN cN, .slice aA nA cA] 30)).heap.size = w.heap.size + 1 by simp] at a3
  rw [show ((w.alloc (.cells #[.slice aN nN cN, .slice aA nA cA] 30)).alloc (.cells #[.slice ra nR rc] 32)).heap.size = w.heap.size + 1 + 1 by simp, ← hwA] at a4
  have k1 : Fr (w.alloc (.cells #[.slice aN nN cN, .slice aA nA cA] 30)) wA := by rw [hwA]; exact ((Fr.refl _).alloc _).alloc _
  have k2 : Fr ((w.alloc (.cells #[.slice aN nN cN, .slice aA nA cA] 30)).alloc (.cells #[.slice ra nR rc] 32)) wA := by rw [hwA]; exact (Fr.refl _).alloc _
  replace a1 := k1.keep a1.1
  replace a2 := k1.keep a2.1
  replace a3 := k2.keep a3.1
  have hbx := box_any aN aA nN cN nA cA m wA
  replace hbx := hbx.mono (fun e w' h => show e = .returned (.func (.func 100) #[] #[.pointer (some ⟨w.heap.size + 3, 0, none⟩), .pointer (some ⟨w.heap.size + 4, 0, none⟩)]) ∧ Fr wA w' ∧ w'.heap.size = w.heap.size + 5 ∧ w'.cell? ⟨w.heap.size + 3, 0, none⟩ = some (.slice aN nN cN) ∧ w'.cell? ⟨w.heap.size + 3, 1, none⟩ = some (.slice aA nA cA) ∧ w'.cell? ⟨w.heap.size + 4, 0, none⟩ = some (.int .i64 m) from by
    obtain ⟨rfl, rfl⟩ := h
    have b1 := new2a wA (.slice aN nN cN) (.slice aA nA cA) 30
    have b2 := new2b wA (.slice aN nN cN) (.slice aA nA cA) 30
    have b3 := new1 (wA.alloc (.cells #[.slice aN nN cN, .slice aA nA cA] 30)) (.int .i64 m) 3
    have k := (Fr.refl (wA.alloc (.cells #[.slice aN nN cN, .slice aA nA cA] 30))).alloc (.cells #[.int .i64 m] 3)
    rw [World.size_alloc, hsA] at b3
    rw [hsA] at b1 b2 ⊢
    exact ⟨rfl, ((Fr.refl wA).alloc _).alloc _, by simp [hsA], k.keep b1.1, k.keep b2.1, b3.1⟩)
  rw [hwA] at hbx
  replace hbx := Lib.hid hbx
  replace hwA := Lib.hid hwA
  clear k1 k2
  gi_wp2
  refine ⟨trivial, (callsIn_wide.2 hbx.out).mono ?_⟩
  rintro e W0 ⟨rfl, hfB, hs0, c3, c4, c5⟩
  rw [← hwA.out] at hfB
  have hf0 := hfA.trans hfB
  replace a1 := hfB.keep a1
  replace a2 := hfB.keep a2
  replace a3 := hfB.keep a3
  have a5 := hfB.keepf a4.1 a4.2
  replace a4 := hfB.keep a4.1
  replace hs0 := Lib.hid hs0
  clear hbx hfA hfB hwA hsA
  gi_wp2
  have hBn : w.heap.size + 3 < W0.heap.size := World.block_lt_of_cell? W0 _ c3
  have hBm : w.heap.size + 4 < W0.heap.size := World.block_lt_of_cell? W0 _ c5
  have hDs : W0.heap.size = w.heap.size + 5 := hs0.out
  refine wpIn_rangeX (n := 4) rfl (by omega) (gf := 100) (lb := #[.pointer (some ⟨w.heap.size + 3, 0, none⟩), .pointer (some ⟨w.heap.size + 4, 0, none⟩)]) rfl trivial (enters_of Tryz.func100 (by kernel_rfl) rfl)
    (box_seq (w.heap.size + 3) (w.heap.size + 4) nN nA m aN aA cN cA W0 (by omega) (by omega) (by omega) hBn hBm c3 c4 c5 (fun k => k ≠ w.heap.size + 3 ∧ k ≠ w.heap.size + 4) (fun k h => h)) (Fr.refl _) ⟨by omega, by omega⟩ (fun x => rfl)
    (fun p pre W => AllI W0 (w.heap.size + 1 + 1) p (pre.filter (keepP N A R)) W)
    (fun p p' s W W' h1 h2 h3 h4 => h1.step (by omega) h2 h3 h4)
    ⟨Fx.refl _ _, fun k e => e.elim, ⟨_, a4, a5, World.ownsRow_nil _ _ _ _, fun g hg => by simp [Value.ownBlock] at hg, fun _ => rfl⟩, fun x hx => by simp at hx⟩
    (fun p pre x a' W => ∃ Bx, pre.length < (boxL m nA nN).length ∧ stripX x ∈ boxL m nA nN ∧ W0.heap.size + 2 ≤ Bx ∧ Bx < W.heap.size ∧ W.cell? ⟨Bx, 0, none⟩ = some (.int .i64 x.i) ∧ W.cell? ⟨Bx, 1, none⟩ = some (.slice (some ⟨x.g, 0, none⟩) x.cs.length x.c) ∧ W0.heap.size + 2 ≤ x.g ∧ ¬ p x.g ∧ RowAt W x ∧
      a' = { tmps := #[.agg #[.slice aN nN cN, .slice aA nA cA], .slice ra nR rc, .int .i64 m, .pointer (some ⟨w.heap.size, 0, none⟩), .pointer (some ⟨w.heap.size + 1, 0, none⟩), undef, .slice none 0 0, .pointer (some ⟨w.heap.size + 1 + 1, 0, none⟩), .pointer (some ⟨Bx, 0, none⟩), .agg #[.slice aN nN cN, .slice aA nA cA], .int .i64 m, .func (.func 100) #[] #[.pointer (some ⟨w.heap.size + 3, 0, none⟩), .pointer (some ⟨w.heap.size + 4, 0, none⟩)], .agg #[.int .i64 x.i, .slice (some ⟨x.g, 0, none⟩) x.cs.length x.c], undef, undef, undef, undef, undef, undef, undef, undef, undef, undef, undef, undef], defers := [] })
    (fun p pre x a' W W' h k => by
      obtain ⟨Bx, bl, b0, b1, b2, b3, b4, b5, b7, b8, b9⟩ := h
      exact ⟨Bx, bl, b0, b1, Nat.lt_of_lt_of_le b2 k.size, k.keep b3 (fun e => by have e : Bx = W0.heap.size + 1 := e; omega), k.keep b4 (fun e => by have e : Bx = W0.heap.size + 1 := e; omega), b5, b7, b8.fx k (fun e => by have e : x.g = W0.heap.size + 1 := e; omega), b9⟩) ?assign ?body ?done
  case assign =>
    intro l p pre x W K hW hp hfr hK
    obtain ⟨gl, g0, g1, g3, g4⟩ := hfr
    have n1 := new2a W (.int .i64 x.i) (.slice (some ⟨x.g, 0, none⟩) x.cs.length x.c) 42
    have n2 := new2b W (.int .i64 x.i) (.slice (some ⟨x.g, 0, none⟩) x.cs.length x.c) 42
    have hfa : Fr W (W.alloc (.cells #[.int .i64 x.i, .slice (some ⟨x.g, 0, none⟩) x.cs.length x.c] 42)) := (Fr.refl W).alloc _
    have hK2 := Lib.hid (fun a' h => hK a' _ hfa ⟨W.heap.size, gl, g0, hW, by simp, n1.1, n2.1, g1, g3, g4.fr hfa, h⟩)
    clear hK n1 n2 hfa
    simp only [BX.enc]
    gi_wp2
    exact hK2.out _ rfl
  case body =>
    rintro l p pre x a' W hW hp hI ⟨Bx, bl, b0, b1, b2, b3, b4, b5, b7, b8, rfl⟩
    have b6 := b8.lt
    obtain ⟨v, o1, o2, o3, o4, o5⟩ := hI.out
    have hfW : Fr w W := ((Fx.of_fr hf0).trans hI.fx).toFr (fun k hk e => by have e : k = w.heap.size + 1 + 1 := e; omega)
    have x1 := hI.fx.keep a1 (fun e => by have e : w.heap.size = w.heap.size + 1 + 1 := e; omega)
    have x2 := hI.fx.keep a2 (fun e => by have e : w.heap.size = w.heap.size + 1 + 1 := e; omega)
    have x3 := hI.fx.keep a3 (fun e => by have e : w.heap.size + 1 = w.heap.size + 1 + 1 := e; omega)
    have x4 := hI.el
    have x5 := hI.pD
    have x6 := hI.fx
    clear hI
    obtain ⟨m1, m2, m3⟩ := boxL_mem b0
    have hsum := fun W' (hW' : Fr W W') => sum_any d aN aA cN cA N A x.i x.cs (some ⟨x.g, 0, none⟩) x.c W' (hn.out.fr (hfW.trans hW')) hok.out hd (by rw [← hnN.out]; exact m1) (b8.2.fr hW') (by rw [← hnA.out]; exact m2) (fun c hc => by have := m3 c hc; unfold fitB; exact decide_eq_true (by omega))
    have hSl := sumS_length hok.out (i := x.i) (by rw [← hnN.out]; exact m1) x.cs
    have hcsl : x.cs.length = nA := m2
    have hcs9 := Lib.hid hcsl.symm
    have hd12 := hok.out.d12
    have hkeep : keepP N A R x = decide (sumS N A (x.i, x.cs) = R) := rfl
    rw [← hnN.out, ← hnA.out, hcsl] at hsum
    have heq := fun W' (hW' : Fr W W') a c (hel : El W' iv a (sumS N A (x.i, x.cs))) => Equal_ints (sumS N A (x.i, x.cs)) R a ra c rc W' hel (hR.out.fr (hfW.trans hW')) (by omega) (by rw [← hnR.out]; omega)
    rw [← hnR.out] at heq
    generalize hSS : sumS N A (x.i, x.cs) = SS at *
    rw [hcsl] at b4 ⊢
    obtain ⟨q, hq⟩ : ∃ q, q = decide (SS = R) := ⟨_, rfl⟩
    rw [← hq] at hkeep
    rw [← hq] at heq
    replace hq := Lib.hid hq
    replace hsum := Lib.hid hsum
    replace heq := Lib.hid heq
    replace hSl := Lib.hid hSl
    clear m1 m2 m3 hcsl hSS
    replace hkeep := Lib.hid hkeep
    replace hp := Lib.hid hp
    replace x4 := Lib.hid x4
    replace x5 := Lib.hid x5
    replace o4 := Lib.hid o4
    replace o5 := Lib.hid o5
    have hmx : Tryz.prog.follows .mixedOrders = true := by kernel_rfl
    have hft : Fence.wide.fn 42 := trivial
    have hft2 : Fence.wide.fn 60 := trivial
    gi_wp2
    gi_region_with (first
      | (gi_at_call 42; (with_reducible refine (CallsIn.inRound l (callsIn_wide.2 (hsum.out _ ?_))).mono ?_); (repeat (with_reducible first | assumption | exact Fr.refl _ | refine Fr.drew ?_ | refine Fr.drewN ?_ _ | refine Fr.alloc ?_ _ | (refine Fr.setCell ?_ (by simp only [World.size_alloc, World.size_drew, World.size_setCell]; omega) _) | refine Fr.trans ?_ (by assumption))); rintro e w1 ⟨g1, c1, rfl, hg1, hel1, hf1⟩; have y3 := hf1.keep x3)
      | (gi_at_call 60; have hFr : Fr W w1 := (by repeat (with_reducible first | assumption | exact Fr.refl _ | refine Fr.drew ?_ | refine Fr.drewN ?_ _ | refine Fr.alloc ?_ _ | (refine Fr.setCell ?_ (by simp only [World.size_alloc, World.size_drew, World.size_setCell]; omega) _) | refine Fr.trans ?_ (by assumption))); have h1 := CallsIn.inRound l ((callsIn_wide (n := 1)).2 (heq.out w1 hFr (some ⟨g1, 0, none⟩) c1 hel1)); refine h1.mono ?_; clear h1; rintro e w2 ⟨rfl, hf2⟩))
    all_goals
      have hfZ : Fr W w2 := by repeat (with_reducible first | assumption | exact Fr.refl _ | refine Fr.drew ?_ | refine Fr.drewN ?_ _ | refine Fr.alloc ?_ _ | (refine Fr.setCell ?_ (by simp only [World.size_alloc, World.size_drew, World.size_setCell]; omega) _) | refine Fr.trans ?_ (by assumption))
      clear hf1 hf2 hFr y3 hel1
      have y1 := hfZ.keep o1
      have y2 := hfZ.keepf o1 o2
      have y4 := hfZ.keep b3
      have y5 := hfZ.keep b4
      have y6 := Lib.hid (ownsRow_fr o3 hfZ)
      replace o3 := Lib.hid o3
      have y7 := hfZ.size
      have hfl : (pre.filter (keepP N A R)).length ≤ pre.length := List.length_filter_le _ _
      have hfx : Fx (fun k => ¬ p k ∧ (k ≠ w.heap.size + 3 ∧ k ≠ w.heap.size + 4) ∧ k ≠ W0.heap.size ∧ k ≠ W0.heap.size + 1) W w2 := Fx.of_fr hfZ
      have hflat := flat2_length ((pre.filter (keepP N A R)).map BX.enc2)
      rw [List.length_map] at hflat
      cases q with
      | false =>
        have hpf : (pre ++ [x]).filter (keepP N A R) = pre.filter (keepP N A R) := by rw [List.filter_append, List.filter_cons, hkeep.out]; simp
        have hfin := Lib.hid (show AllI W0 (w.heap.size + 1 + 1) p ((pre ++ [x]).filter (keepP N A R)) w2 from by
          rw [hpf]
          exact ⟨x6.fr hfZ, x5.out, ⟨v, y1, y2, y6.out, fun g hg => ⟨(o4.out g hg).1, Nat.lt_of_lt_of_le (o4.out g hg).2 y7⟩, o5.out⟩, fun z hz => by
            obtain ⟨z1, z3, z4⟩ := x4.out z hz
            exact ⟨z1, z3, z4.fr hfZ⟩⟩)
        replace hfx := Lib.hid hfx
        clear hpf hflat hfl
        gi_wp2
        exact ⟨hfx.out, hfin.out⟩
      | true =>
        have hpf : (pre ++ [x]).filter (keepP N A R) = pre.filter (keepP N A R) ++ [x] := by rw [List.filter_append, List.filter_cons, hkeep.out]; simp
        obtain ⟨K, hK⟩ : ∃ K, K = pre.filter (keepP N A R) := ⟨_, rfl⟩
        rw [← hK] at hpf hflat hfl x4 y6 o3
        replace hpf := Lib.hid hpf
        replace hfx := Lib.hid hfx
        replace hflat := Lib.hid hflat
        replace hK := Lib.hid hK
        have hKl : K.length + 1 ≤ 1000001 := by omega
        clear o3 hfl
        have hvo : ∀ k, v.ownBlock = some k → W0.heap.size + 2 ≤ k := fun k hk => ownsRow_own_ge y6.out k hk
        have hzA : Fr w2 (w2.alloc (.cells #[.int .i64 x.i, .slice (some ⟨x.g, 0, none⟩) nA x.c] 42)) := (Fr.refl w2).alloc _
        have s1 := hzA.keep y1
        have s2 := hzA.keepf y1 y2
        replace hvo := Lib.hid hvo
        replace hzA := Lib.hid hzA
        replace s1 := Lib.hid s1
        replace s2 := Lib.hid s2
        gi_wp2_with (gi_at_builtin; refine wpListIn_append_own_at _ rfl _ _ 36 (by rfl) (W0.heap.size + 2) 42 i0 _ 2 32 Tryz.underlying36 hi hz0 hz1 hz2 rfl (by decide) _ K.length _ (by rfl) (y6.out.alloc _) ⟨w2.heap.size, 0, none⟩ 1 1 [.int .i64 x.i, .slice (some ⟨x.g, 0, none⟩) nA x.c] (by rfl) rfl (cell_two_new _ _ _ _) (by simp [Value.oneCell']) (by unfold maxLen; omega) (by omega) (by simp; omega) ?_; intro v' w3 hown3 hgr3 _ hat3; obtain ⟨g9, cap9, rfl⟩ := ownsRow_pos hown3 (by omega); have hFx := Fx.of_grown hgr3; have u1 := hFx.keep s1.out (fun e => by have e9 : W0.heap.size + 2 ≤ w.heap.size + 1 + 1 := hvo.out _ e; omega); have u2 := hFx.keepf s1.out s2.out (fun e => by have e9 : W0.heap.size + 2 ≤ w.heap.size + 1 + 1 := hvo.out _ e; omega); replace hFx := Lib.hid hFx; clear hgr3)
        obtain ⟨hpush, hFF⟩ := AllI.push (by omega) x6 x5.out x4.out o4.out (fun k hk => (hp.out k hk).2) hfZ y6.out hFx.out hown3 (by rw [hcs9.out]; rfl) hat3 u1 u2 b5 b7 b8
        rw [← hpf.out] at hpush
        refine ⟨hFF.mono (fun k e => ?_), hpush⟩
        rcases e with e | e
        · have h1 := (o4.out k e).1
          have h2 := hvo.out k e
          exact ⟨h1, ⟨by omega, by omega⟩, by omega, by omega⟩
        · exact ⟨fun h => by have := (hp.out k h).1; omega, ⟨by omega, by omega⟩, by omega, by omega⟩
  case done =>
    intro p xs W hS hI hK
    obtain ⟨v, o1, o2, o3, o4, o5⟩ := hI.out
    have hel := hI.el
    have hfx := hI.fx
    clear hI
    have hKm : (xs.filter (keepP N A R)).map stripX = (boxL m nA nN).filter fun s => decide (sumS N A s = R) := by
      rw [← hS, List.filter_map]; rfl
    have hKnd : ((xs.filter (keepP N A R)).map stripX).Nodup := by rw [hKm]; exact (boxL_nodup m nA nN).filter _
    have hKb : ∀ x, x ∈ xs.filter (keepP N A R) → x.cs.length = nA ∧ ∀ c, c ∈ x.cs → fitB c = true := fun x hx => by
      have h1 : stripX x ∈ boxL m nA nN := by rw [← hS]; exact List.mem_map_of_mem (List.mem_filter.1 hx).1
      obtain ⟨-, m2, m3⟩ := boxL_mem h1
      exact ⟨m2, fun c hc => by have := m3 c hc; unfold fitB; exact decide_eq_true (by omega)⟩
    have hKl : (xs.filter (keepP N A R)).length ≤ 1000001 := by
      have h1 : xs.length = (boxL m nA nN).length := by rw [← hS, List.length_map]
      have := List.length_filter_le (keepP N A R) xs
      omega
    have hfr : Fr w W := ((Fx.of_fr hf0).trans hfx).toFr (fun k hk e => by have e : k = w.heap.size + 1 + 1 := e; omega)
    generalize xs.filter (keepP N A R) = K at *
    replace hS := Lib.hid hS
    replace hKm := Lib.hid hKm
    replace hKnd := Lib.hid hKnd
    replace hel := Lib.hid hel
    replace hKb := Lib.hid hKb
    replace hfr := Lib.hid hfr
    replace hfx := Lib.hid hfx
    have hDl : W0.heap.size < W.heap.size := (Array.getElem?_eq_some_iff.1 hK).1
    by_cases hK0 : K = []
    · obtain rfl := o5 hK0
      have hres := Lib.hid (show ∀ W', Fr w W' → AllRet w (sortS ((boxL m nA nN).filter fun s => decide (sumS N A s = R))) (.returned (.slice none 0 0)) W' from fun W' hW' => by
        rw [← hKm.out]
        subst hK0
        exact ⟨none, 0, [], rfl, ⟨⟨rfl, .inl ⟨rfl, rfl⟩⟩, fun x hx => by simp at hx⟩, by simp [sortS], hW'⟩)
      have hsort := Lib.hid (fun fv => AnyF.slices_SortFunc_none { Tryz.sortSp with } none 0 fv W)
      clear o3 o4 o5 hK0
      gi_wp2
      refine ⟨trivial, (callsIn_wide.2 (hsort.out _)).mono ?_⟩
      rintro e W1 ⟨rfl, rfl⟩
      gi_wp2
      rw [hDs] at hK
      refine ⟨by simp, .inl ⟨_, _, rfl, run_takeDeferred hK, ?_⟩⟩
      refine ⟨_, results_tmp rfl _ _ _, ?_⟩
      exact hres.out _ (((Fx.of_fr hfr.out).trans (Fx.putObj _ _ _)).toFr (fun k hk e => by have e : k = w.heap.size + 5 := e; omega))
    · obtain ⟨g, cap, rfl⟩ := ownsRow_pos o3 (List.length_pos_iff.2 hK0)
      have hge := ownsRow_own_ge o3 g rfl
      have hsort := SortFunc_sp (W0.heap.size + 2) g cap K W o3 (fun x hx => (hel.out x hx).2.2) hKnd.out (fun x hx => by rw [(hKb.out x hx).1]; omega) (fun x hx => (hKb.out x hx).2) hK0 hKl
      replace hsort := Lib.hid hsort
      have hol := Lib.hid o3
      clear o3 o4 o5 hK0
      gi_wp2
      refine ⟨trivial, (callsIn_wide.2 hsort.out).mono ?_⟩
      rintro e W1 ⟨rfl, K', hK1, hK2, hF1, hown1⟩
      have q1 := hF1.keep o1 (fun e => by have e : w.heap.size + 1 + 1 = g := e; omega)
      replace hK1 := Lib.hid hK1
      have hKD : W1.heap[w.heap.size + 5]? = some (.deferred (some [])) := by rw [← hDs]; exact (hF1.block _ hDl (fun e => by have e : W0.heap.size = g := e; omega)).trans hK
      have hFr1 : Fr w W1 := ((Fx.of_fr hfr.out).trans hF1).toFr (fun k hk e => by have e : k = g := e; omega)
      have hres := Lib.hid (show ∀ W', Fx (· = w.heap.size + 5) W1 W' → AllRet w (sortS ((boxL m nA nN).filter fun s => decide (sumS N A s = R))) (.returned (.slice (some ⟨g, 0, none⟩) K.length cap)) W' from fun W' hW' => by
        rw [← hKm.out]
        have hlK : K'.length = K.length := hK2.length_eq
        refine ⟨some ⟨g, 0, none⟩, cap, K', by rw [hlK], ⟨?_, fun x hx => ?_⟩, hK1.out, ((Fx.of_fr hFr1).trans hW').toFr (fun k hk e => by have e : k = w.heap.size + 5 := e; omega)⟩
        · rw [hlK]
          exact ownsRow_mono (ownsRow_fx hown1 hW' (fun k hk e => by
            have e : k = w.heap.size + 5 := e
            have h2 : g = k := by simpa [Value.ownBlock] using hk
            omega)) (by omega)
        · obtain ⟨z1, z2, z3⟩ := hel.out x (hK2.mem_iff.1 hx)
          have hne := z3.ne hol.out
          have hne2 : ¬ x.g = g := fun e => hne (by rw [e]; rfl)
          have z4 := (z3.fx hF1 hne2).fx hW' (fun e => by have e : x.g = w.heap.size + 5 := e; omega)
          exact ⟨by omega, z4.lt, by rw [hlK]; exact hne, z4.2⟩)
      gi_wp2
      refine ⟨by simp, .inl ⟨_, _, rfl, run_takeDeferred hKD, ?_⟩⟩
      refine ⟨_, results_tmp rfl _ _ _, ?_⟩
      exact hres.out _ (Fx.putObj _ _ _)
end Go.Proofs.YtphjfalibnnohaaGreatDoor
