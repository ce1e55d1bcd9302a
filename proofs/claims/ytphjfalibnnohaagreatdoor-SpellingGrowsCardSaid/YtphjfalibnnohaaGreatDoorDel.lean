/- slices.DeleteFunc of structs of two cells, in a row that may be written. -/
import Derived.Test.YtphjfalibnnohaaGreatDoorBox
import Derived.Test.YtphjfalibnnohaaGreatDoorConcat
import Derived.Lib.SliceRun
namespace Go.Proofs.YtphjfalibnnohaaGreatDoor
open Go.RowKit Go.Lib

theorem flat2_set : ∀ (l : List (Value × Value)) (i : Nat) (y : Value × Value), flat2 (l.set i y) = ((flat2 l).set (i * 2) y.1).set (i * 2 + 1) y.2
  | [], i, y => by simp [flat2]
  | x :: l, 0, y => by simp [flat2]
  | x :: l, i + 1, y => by
    have e : (i + 1) * 2 = i * 2 + 1 + 1 := by omega
    rw [e, List.set_cons_succ, flat2, flat2, flat2_set l i y]
    simp
theorem Cnt.prs {W : World} {g : Nat} {l : List (Value × Value)} (h : Cnt W g (flat2 l)) : Prs W (some ⟨g, 0, none⟩) l := by
  refine .inr ⟨g, 0, rfl, h.1, fun i x hx => ?_⟩
  have := flat2_get l i x hx
  rw [Nat.zero_add]
  exact ⟨(h.2 _ _ this.1).1, (h.2 _ _ this.2).1⟩
theorem run_clear_cells {P : Program} (w : World) (t e ty : TypeId) (z : Value) (ht : P.underlying t = some (.slice e)) (hv : ∀ u, (zeroValue e).run P u = .ok z u) (b o n c : Nat) (hn : 0 < n)
    (h1 : ∀ v, v ∈ (Builtin.zeroCells z.cells n).toList → v.oneCell' = true)
    (hc : ∀ j, j < (Builtin.zeroCells z.cells n).toList.length → (w.cell? ⟨b, o + j, none⟩).isSome = true) (hf : ∀ j, j < (Builtin.zeroCells z.cells n).toList.length → w.frozen? ⟨b, o + j, none⟩ = false) :
    (Builtin.clear_ #[t] ty #[.slice (some ⟨b, o, none⟩) n c]).run P w = .ok (.tuple #[]) (w.setCells b o (Builtin.zeroCells z.cells n).toList) := by
  have hst := run_storeCells_cells (P := P) b o (Builtin.zeroCells z.cells n).toList 0 w (by simpa using hc) (by simpa using hf) h1
  simp only [Nat.add_zero] at hst
  obtain ⟨m, rfl⟩ : ∃ m, n = m + 1 := ⟨n - 1, by omega⟩
  simp [Builtin.clear_, run_underlying ht, hv, hst]
theorem fx_setCells {p : Nat → Prop} {b : Nat} (hb : p b) : ∀ (vs : List Value) (o : Nat) (a w : World), Fx p a w → Fx p a (w.setCells b o vs)
  | [], _, _, _, h => h
  | v :: r, o, a, _, h => fx_setCells hb r (o + 1) a _ (h.setCell (q := ⟨b, o, none⟩) (.inl hb) v)

def keepL {α : Type} (p : α → Bool) (l : List α) : List α := l.filter fun x => !p x
theorem keepL_snoc {α : Type} {p : α → Bool} {l : List α} {j : Nat} {x : α} (h : l[j]? = some x) : keepL p (l.take (j + 1)) = if p x then keepL p (l.take j) else keepL p (l.take j) ++ [x] := by
  unfold keepL
  rw [List.take_add_one, h, List.filter_append]
  cases hp : p x <;> simp [hp]

/-- the state of the loop: the first i are those kept of the first j, from j on all stand as they stood -/
structure DelI {α : Type} (enc : α → Value × Value) (p : α → Bool) (xs : List α) (W : World) (g i j : Nat) (L : List (Value × Value)) (wr : World) : Prop where
  cnt : Cnt wr g (flat2 L)
  len : L.length = xs.length
  lt : i < j
  le : j ≤ xs.length
  num : (keepL p (xs.take j)).length = i
  low : L.take i = (keepL p (xs.take j)).map enc
  high : L.drop j = (xs.drop j).map enc
  fx : Fx (· = g) W wr

theorem DelI.at {α : Type} {enc : α → Value × Value} {p : α → Bool} {xs : List α} {W : World} {g i j : Nat} {L : List (Value × Value)} {wr : World} (h : DelI enc p xs W g i j L wr) {x : α} (hx : xs[j]? = some x) :
    wr.cell? ⟨g, j * 2, none⟩ = some (enc x).1 ∧ wr.cell? ⟨g, j * 2 + 1, none⟩ = some (enc x).2 := by
  have h1 : (L.drop j)[0]? = some (enc x) := by rw [h.high, List.getElem?_map, List.getElem?_drop, Nat.add_zero, hx]; rfl
  rw [List.getElem?_drop, Nat.add_zero] at h1
  obtain ⟨a, b⟩ := flat2_get L j _ h1
  exact ⟨(h.cnt.2 _ _ a).1, (h.cnt.2 _ _ b).1⟩
theorem DelI.there {α : Type} {enc : α → Value × Value} {p : α → Bool} {xs : List α} {W : World} {g i j : Nat} {L : List (Value × Value)} {wr : World} (h : DelI enc p xs W g i j L wr) {k : Nat} (hk : k < xs.length) :
    ∃ u v, wr.cell? ⟨g, k * 2, none⟩ = some u ∧ wr.cell? ⟨g, k * 2 + 1, none⟩ = some v ∧ wr.frozen? ⟨g, k * 2, none⟩ = false ∧ wr.frozen? ⟨g, k * 2 + 1, none⟩ = false := by
  have hk2 : k < L.length := by rw [h.len]; exact hk
  obtain ⟨a, b⟩ := flat2_get L k _ (List.getElem?_eq_getElem hk2)
  exact ⟨_, _, (h.cnt.2 _ _ a).1, (h.cnt.2 _ _ b).1, (h.cnt.2 _ _ a).2, (h.cnt.2 _ _ b).2⟩
theorem DelI.skip {α : Type} {enc : α → Value × Value} {p : α → Bool} {xs : List α} {W : World} {g i j : Nat} {L : List (Value × Value)} {wr w2 : World} (h : DelI enc p xs W g i j L wr) {x : α} (hx : xs[j]? = some x) (hp : p x = true) (hf : Fr wr w2) : DelI enc p xs W g i (j + 1) L w2 := by
  have hj : j < xs.length := (List.getElem?_eq_some_iff.1 hx).1
  have e := keepL_snoc (p := p) hx
  rw [if_pos hp] at e
  refine ⟨h.cnt.fx (p := fun _ => False) (Fx.of_fr hf) (fun e => e), h.len, by have := h.lt; omega, hj, by rw [e]; exact h.num, by rw [e]; exact h.low, ?_, h.fx.fr hf⟩
  have := congrArg (List.drop 1) h.high
  rw [List.drop_drop, ← List.map_drop, List.drop_drop] at this
  exact this
theorem DelI.put {α : Type} {enc : α → Value × Value} {p : α → Bool} {xs : List α} {W : World} {g i j : Nat} {L : List (Value × Value)} {wr w2 : World} (h : DelI enc p xs W g i j L wr) {x : α} (hx : xs[j]? = some x) (hp : p x = false) (hf : Fr wr w2) :
    DelI enc p xs W g (i + 1) (j + 1) (L.set i (enc x)) ((w2.setCell ⟨g, i * 2, none⟩ (enc x).1).setCell ⟨g, i * 2 + 1, none⟩ (enc x).2) := by
  have hj : j < xs.length := (List.getElem?_eq_some_iff.1 hx).1
  have e := keepL_snoc (p := p) hx
  rw [if_neg (by simp [hp])] at e
  have hi := h.lt
  have hiL : i < L.length := by rw [h.len]; omega
  have hc := h.cnt.fx (p := fun _ => False) (Fx.of_fr hf) (fun e => e)
  have hfl := flat2_length L
  have hc2 := (hc.set (i * 2) (by omega) (enc x).1).set (i * 2 + 1) (by rw [List.length_set]; omega) (enc x).2
  rw [← flat2_set] at hc2
  refine ⟨hc2, by rw [List.length_set]; exact h.len, by omega, hj, by rw [e, List.length_append, h.num]; rfl, ?_, ?_, ((h.fx.fr hf).setCell (q := ⟨g, i * 2, none⟩) (.inl rfl) _).setCell (q := ⟨g, i * 2 + 1, none⟩) (.inl rfl) _⟩
  · rw [e, List.map_append, take_set_succ hiL, h.low]; rfl
  · rw [List.drop_set_of_lt (by omega)]
    have := congrArg (List.drop 1) h.high
    rw [List.drop_drop, ← List.map_drop, List.drop_drop] at this
    exact this

set_option maxRecDepth 100000 in
set_option maxHeartbeats 4000000 in
theorem DeleteFunc_spl {α : Type} (enc : α → Value × Value) (xs : List α) (g cap : Nat) (gF : Nat) (lb : Array Value) (p : α → Bool) (W : World)
    (eg : ∀ args w, (callFunc gF args).run Tryz.prog w = .ok (.enter gF args) w) (hx : Cnt W g (flat2 (xs.map enc))) (hl : xs.length ≤ 1000000000) (hcap : xs.length ≤ cap) (hone : ∀ x, ∃ (i : Int) (a : Option Addr) (n c : Nat), enc x = (.int .i64 i, .slice a n c))
    (hp : ∀ x, x ∈ xs → ∀ W', Fx (· = g) W W' → Calls Tryz.prog gF (#[.agg #[(enc x).1, (enc x).2]] ++ lb) W' fun e w' => e = .returned (.bool (p x)) ∧ Fr W' w') :
    Calls Tryz.prog 10 #[.slice (some ⟨g, 0, none⟩) xs.length cap, .func (.func gF) #[] lb] W fun e W' => e = .returned (.slice (some ⟨g, 0, none⟩) (keepL p xs).length cap) ∧ Prs W' (some ⟨g, 0, none⟩) ((keepL p xs).map enc) ∧ Fx (· = g) W W' := by
  have hIF := IndexFunc_spl enc xs (some ⟨g, 0, none⟩) cap gF lb p W eg hx.prs hl (fun x W' hm hW' => hp x hm W' (Fx.of_fr hW'))
  have hidx := idx_cases p xs
  obtain ⟨n, hn⟩ : ∃ n, n = xs.length := ⟨_, rfl⟩
  rw [← hn] at hIF hl hcap ⊢
  rcases hidx with ⟨h1, h2⟩ | ⟨k, x, h1, h2, h3, h4⟩
  · rw [h1] at hIF
    have hk : keepL p xs = xs := by unfold keepL; exact List.filter_eq_self.2 (fun x hx => by rw [h2 x hx]; rfl)
    have hres := Lib.hid (show ∀ W', Fr W W' → Prs W' (some ⟨g, 0, none⟩) ((keepL p xs).map enc) ∧ Fx (· = g) W W' from fun W' hW' => ⟨by rw [hk]; exact hx.prs.fr hW', Fx.of_fr hW'⟩)
    have hkl := Lib.hid (show (keepL p xs).length = n by rw [hk, hn])
    clear hp hk h1 h2 hx eg hn
    go_enter Tryz.func10, Tryz.ntmps10
    go_wp2_with fail
    refine hIF.mono ?_
    rintro e w1 ⟨rfl, hf1⟩
    go_wp2_with fail
    go_ret
    exact ⟨by rw [hkl.out]; rfl, hres.out _ hf1⟩
  · rw [h1] at hIF
    have hkx : k < xs.length := (List.getElem?_eq_some_iff.1 h2).1
    have hkk : keepL p (xs.take k) = xs.take k := by
      unfold keepL
      refine List.filter_eq_self.2 (fun y hy => ?_)
      obtain ⟨j, hj⟩ := List.getElem?_of_mem hy
      rw [List.getElem?_take] at hj
      split at hj
      · rename_i hjk; rw [h4 j y hjk hj]; rfl
      · simp at hj
    have hst : ∀ W', Fr W W' → DelI enc p xs W g k (k + 1) (xs.map enc) W' := fun W' hW' => by
      have e := keepL_snoc (p := p) h2
      rw [if_pos h3, hkk] at e
      exact ⟨hx.fx (p := fun _ => False) (Fx.of_fr hW') (fun e => e), by rw [List.length_map], by omega, hkx, by rw [e, List.length_take]; omega, by rw [e, List.map_take], by rw [List.map_drop], Fx.of_fr hW'⟩
    have hne : ((k : Int) == -1) = false := beq_false_of_ne (by omega)
    have hzc : ∀ m, (Builtin.zeroCells (Value.agg #[.int .i64 0, .slice none 0 0]).cells m).toList.length = m * 2 := fun m => by rw [Array.length_toList, size_zeroCells]; rfl
    have hz1 : ∀ m v, v ∈ (Builtin.zeroCells (Value.agg #[.int .i64 0, .slice none 0 0]).cells m).toList → v.oneCell' = true := fun m v hv => by
      have hv := Array.mem_toList_iff.1 hv
      unfold Builtin.zeroCells at hv
      obtain ⟨q, -, rfl⟩ := Array.mem_map.1 hv
      show (#[(Value.int .i64 0), .slice none 0 0][q % 2]!).oneCell' = true
      rcases Nat.mod_two_eq_zero_or_one q with h | h <;> rw [h] <;> rfl
    have hkn : k < n := by rw [hn]; exact hkx
    replace hp := Lib.hid hp
    replace hn := Lib.hid hn
    replace hst := Lib.hid hst
    replace hIF := Lib.hid hIF
    replace hzc := Lib.hid hzc
    replace hz1 := Lib.hid hz1
    replace hone := Lib.hid hone
    clear h1 h2 h3 h4 hx hkk hkx
    go_enter Tryz.func10, Tryz.ntmps10
    go_wp2_with fail
    refine hIF.out.mono ?_
    rintro e w1 ⟨rfl, hf1⟩
    have hst1 := hst.out w1 hf1
    clear hst hIF hf1
    replace hst1 := Lib.hid hst1
    go_wp2_with fail
    go_loopg [5, 6] n (fun gg s5 s6 wr => ∃ (i j : Nat) (L : List (Value × Value)), s5 = .int .i64 i ∧ s6 = .int .i64 j ∧ j + gg ≤ n + n ∧ n ≤ j + gg ∧ Hid (DelI enc p xs W g i j L wr))
    case atStart => exact ⟨k, k + 1, _, rfl, by go_num, by omega, by omega, hst1⟩
    case round =>
      clear hst1
      obtain ⟨i, j, L, rfl, rfl, hg1, hg2, hI⟩ := hrel
      have hij := hI.out.lt
      have hjn := hI.out.le
      rw [← hn.out] at hjn
      by_cases hj : j < n
      · have hdJ : decide (j < n) = true := decide_eq_true hj
        obtain ⟨x, hxj⟩ : ∃ x, xs[j]? = some x := ⟨_, List.getElem?_eq_getElem (by rw [← hn.out]; exact hj)⟩
        obtain ⟨c1, c2⟩ := hI.out.at hxj
        obtain ⟨u, v, i1, i2, i3, i4⟩ := hI.out.there (k := i) (by rw [← hn.out]; omega)
        have hpx := hp.out x (List.mem_of_getElem? hxj)
        have hskip := fun w2 hp => hI.out.skip (w2 := w2) hxj hp
        have hput := fun w2 hp => hI.out.put (w2 := w2) hxj hp
        have hfx := hI.out.fx
        have hgl := hI.out.cnt.1
        clear hxj hI
        obtain ⟨zi, za, zn, zc, hz⟩ := hone.out x
        generalize p x = px at *
        rw [hz] at c1 c2 hput
        simp only at c1 c2 hput
        have hbA : Fr wr (wr.alloc (.cells #[.int .i64 zi, .slice za zn zc] 42)) := (Fr.refl wr).alloc _
        have hcall := hpx (wr.alloc (.cells #[.int .i64 zi, .slice za zn zc] 42)) (hfx.fr hbA)
        rw [hz] at hcall
        simp only at hcall
        have k1 := hbA.keep c1
        have k2 := hbA.keep c2
        have n1 := new2a wr (.int .i64 zi) (.slice za zn zc) 42
        have n2 := new2b wr (.int .i64 zi) (.slice za zn zc) 42
        clear hz hpx
        have y1 : (j : Int) < (n : Int) := by omega
        have y0 : (0 : Int) ≤ (j : Int) := by omega
        have y2 : (i : Int) < (n : Int) := by omega
        have y3 : (0 : Int) ≤ (i : Int) := by omega
        replace hcall := Lib.hid hcall
        replace hskip := Lib.hid hskip
        replace hput := Lib.hid hput
        replace hbA := Lib.hid hbA
        replace n1 := Lib.hid n1.1
        replace n2 := Lib.hid n2.1
        replace k1 := Lib.hid k1
        replace k2 := Lib.hid k2
        go_wp2_with fail
        refine hcall.out.mono ?_
        rintro e w2 ⟨rfl, hf2⟩
        have hfw := hbA.out.trans hf2
        have m1 := hf2.keep n1.out
        have m2 := hf2.keep n2.out
        have j1 := hfw.keep i1
        have j2 := hfw.keep i2
        have j3 := hfw.keepf i1 i3
        have j4 := hfw.keepf i2 i4
        cases px with
        | true =>
          have hI2 := Lib.hid (hskip.out w2 rfl hfw)
          clear hskip hput
          go_wp2_with fail
          go_roundg (gk - 1)
          case measure => omega
          case rel => exact ⟨i, j + 1, L, rfl, by go_num, by omega, by omega, hI2⟩
        | false =>
          have hI2 := Lib.hid (hput.out w2 rfl hfw)
          clear hskip hput
          have e1 : (⟨g, i * 2, none⟩ : Addr) ≠ ⟨g, i * 2 + 1, none⟩ := fun e => by injection e with _ e; omega
          have s2 : (w2.setCell ⟨g, i * 2, none⟩ (.int .i64 zi)).cell? ⟨g, i * 2 + 1, none⟩ = some v := by rw [World.cell?_setCell_other _ _ _ _ e1]; exact j2
          have s3 : (w2.setCell ⟨g, i * 2, none⟩ (.int .i64 zi)).frozen? ⟨g, i * 2 + 1, none⟩ = false := by rw [World.frozen?_setCell]; exact j4
          clear c1 c2 i1 i2 i3 i4
          go_wp2_with fail
          go_roundg (gk - 1)
          case measure => omega
          case rel => exact ⟨i + 1, j + 1, _, by go_num, by go_num, by omega, by omega, hI2⟩
      · obtain rfl : j = n := by omega
        have hdJ : decide (j < j) = false := decide_eq_false (by omega)
        have hI2 := hI.out
        clear hI
        have hxx : xs.take j = xs := List.take_of_length_le (by rw [← hn.out]; exact Nat.le_refl _)
        have hnum := hI2.num
        have hlow := hI2.low
        rw [hxx] at hnum hlow
        have hmn : 0 < j - i := by omega
        have hLl := hI2.len
        rw [← hn.out] at hLl
        have hcc : ∀ q, q < (Builtin.zeroCells (Value.agg #[.int .i64 0, .slice none 0 0]).cells (j - i)).toList.length → (wr.cell? ⟨g, i * 2 + q, none⟩).isSome = true ∧ wr.frozen? ⟨g, i * 2 + q, none⟩ = false := fun q hq => by
          rw [hzc.out] at hq
          have hfl := flat2_length L
          have h5 := hI2.cnt.2 (i * 2 + q) _ (List.getElem?_eq_getElem (by rw [hfl, hLl]; omega))
          exact ⟨by rw [h5.1]; rfl, h5.2⟩
        have hclr := fun ty => run_clear_cells (P := Tryz.prog) wr 36 42 ty _ Tryz.underlying36 Tryz.zeroValue42 g (i * 2) (j - i) (cap - i) hmn (hz1.out (j - i)) (fun q hq => (hcc q hq).1) (fun q hq => (hcc q hq).2)
        generalize hwz : wr.setCells g (i * 2) (Builtin.zeroCells (Value.agg #[.int .i64 0, .slice none 0 0]).cells (j - i)).toList = wz at hclr
        have hFz : Fx (· = g) W wz := by rw [← hwz]; exact fx_setCells (p := (· = g)) (b := g) rfl _ _ _ _ hI2.fx
        have hFg : g < wz.heap.size := by
          have h6 : Fx (· = g) wr wz := by rw [← hwz]; exact fx_setCells (p := (· = g)) (b := g) rfl _ _ _ _ (Fx.refl _ _)
          exact Nat.lt_of_lt_of_le hI2.cnt.1 h6.size
        have hres := Lib.hid (show Prs wz (some ⟨g, 0, none⟩) ((keepL p xs).map enc) from by
          rw [← hlow]
          refine .inr ⟨g, 0, rfl, hFg, fun q y hy => ?_⟩
          rw [List.getElem?_take] at hy
          split at hy
          · rename_i hqi
            obtain ⟨a, b⟩ := flat2_get L q y hy
            rw [Nat.zero_add]
            have o1 := World.cell?_setCells_out g (Builtin.zeroCells (Value.agg #[.int .i64 0, .slice none 0 0]).cells (j - i)).toList (i * 2) wr ⟨g, q * 2, none⟩ (fun _ _ => .inl (show q * 2 < i * 2 by omega))
            have o2 := World.cell?_setCells_out g (Builtin.zeroCells (Value.agg #[.int .i64 0, .slice none 0 0]).cells (j - i)).toList (i * 2) wr ⟨g, q * 2 + 1, none⟩ (fun _ _ => .inl (show q * 2 + 1 < i * 2 by omega))
            rw [hwz] at o1 o2
            rw [o1, o2]
            exact ⟨(hI2.cnt.2 _ _ a).1, (hI2.cnt.2 _ _ b).1⟩
          · simp at hy)
        clear hwz hcc hI2 hxx hlow hLl
        replace hnum := Lib.hid hnum
        have y2 : (i : Int) < (j : Int) := by omega
        have y3 : (0 : Int) ≤ (i : Int) := by omega
        have y4 : (i : Int) < (cap : Int) := by omega
        have y5 : (j : Int) ≤ (cap : Int) := by omega
        go_wp2_with fail
        go_ret
        exact ⟨by rw [hnum.out]; rfl, hres.out, hFz⟩
end Go.Proofs.YtphjfalibnnohaaGreatDoor
