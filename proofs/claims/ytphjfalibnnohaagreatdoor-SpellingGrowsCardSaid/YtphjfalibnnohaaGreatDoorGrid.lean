/- Grids of integer texts that are changed in their place: smith's take, turn, finish, hermitian. -/
import Derived.Test.YtphjfalibnnohaaGreatDoorRow
import Derived.Deep.RegionHeld3
import Derived.Deep.RegionWith
import Derived.Deep.DrawnRows
namespace Go.Proofs.YtphjfalibnnohaaGreatDoor
open Go.RowKit Go.Lib
attribute [local go_sem ↓] Go.wp_at_zero Go.wp_at_succ

/-- blocks from here on are none of the program's variables -/
def gN : Nat := 0 + 1

/-- all that was there stands as it stood, but for the blocks of p -/
structure Fx (p : Nat → Prop) (w w' : World) : Prop where
  os : w'.os = w.os
  tape : w'.tape = w.tape
  output : w'.output = w.output
  size : w.heap.size ≤ w'.heap.size
  block : ∀ k, k < w.heap.size → ¬ p k → w'.heap[k]? = w.heap[k]?

theorem Fx.of_fr {p : Nat → Prop} {w w' : World} (h : Fr w w') : Fx p w w' :=
  have h : Below w.heap.size w w' := h
  ⟨h.os, h.tape, h.output, h.size, fun k hk _ => h.block k hk⟩
theorem Fx.refl (p : Nat → Prop) (w : World) : Fx p w w := Fx.of_fr (Fr.refl w)
theorem Fx.trans {p : Nat → Prop} {a b c : World} (h : Fx p a b) (k : Fx p b c) : Fx p a c :=
  ⟨k.os.trans h.os, k.tape.trans h.tape, k.output.trans h.output, Nat.le_trans h.size k.size, fun i hi hp => (k.block i (Nat.lt_of_lt_of_le hi h.size) hp).trans (h.block i hi hp)⟩
theorem Fx.fr {p : Nat → Prop} {a b c : World} (h : Fx p a b) (k : Fr b c) : Fx p a c := h.trans (Fx.of_fr k)
theorem Fx.drewN {p : Nat → Prop} {a b : World} (h : Fx p a b) (n : Nat) : Fx p a (b.drewN n) := h.fr ((Fr.refl b).drewN n)
theorem Fx.drew {p : Nat → Prop} {a b : World} (h : Fx p a b) : Fx p a b.drew := h.fr (Fr.refl b).drew
theorem Fx.alloc {p : Nat → Prop} {a b : World} (h : Fx p a b) (o : Obj) : Fx p a (b.alloc o) := h.fr ((Fr.refl b).alloc o)
theorem Fx.setCell {p : Nat → Prop} {a b : World} (h : Fx p a b) {q : Addr} (hq : p q.block ∨ a.heap.size ≤ q.block) (u : Value) : Fx p a (b.setCell q u) :=
  ⟨h.os, h.tape, h.output, by simpa [World.setCell] using h.size, fun k hk hp => by
    have e : k ≠ q.block := by
      rcases hq with hq | hq
      · intro e; rw [e] at hp; exact hp hq
      · omega
    exact (Below.heap_setCell _ _ _ _ e).trans (h.block k hk hp)⟩
theorem Fx.cell {p : Nat → Prop} {w w' : World} (h : Fx p w w') {q : Addr} (hq : q.block < w.heap.size) (hp : ¬ p q.block) : w'.cell? q = w.cell? q :=
  World.cell?_of_block (w := w) (h.block q.block hq hp)
theorem Fx.frozen {p : Nat → Prop} {w w' : World} (h : Fx p w w') {q : Addr} (hq : q.block < w.heap.size) (hp : ¬ p q.block) : w'.frozen? q = w.frozen? q :=
  World.frozen?_of_block (w := w) (h.block q.block hq hp)
theorem Fx.mono {p q : Nat → Prop} {w w' : World} (h : Fx p w w') (hpq : ∀ k, p k → q k) : Fx q w w' :=
  ⟨h.os, h.tape, h.output, h.size, fun k hk hp => h.block k hk (fun e => hp (hpq k e))⟩
theorem Fx.toFr {p : Nat → Prop} {w w' : World} (h : Fx p w w') (hp : ∀ k, k < w.heap.size → ¬ p k) : Fr w w' :=
  show Below w.heap.size w w' from ⟨h.os, h.tape, h.output, h.size, fun k hk => h.block k hk (hp k hk)⟩
theorem G.fx {p : Nat → Prop} {w w' : World} (h : G w) (k : Fx p w w') (hp : ∀ k, p k → gN ≤ k) : G w' := by
  have hl := h.lt
  unfold G TabIs World.var? at *
  simp only [gnum, Option.bind_some] at h ⊢
  rw [k.block _ hl (fun e => by have := hp _ e; unfold gN at this; omega)]
  exact h
theorem gN_le {w : World} (h : G w) : gN ≤ w.heap.size := h.lt

/-- a row of integer texts that may be written -/
def Own (w : World) (b o : Nat) (xs : List Int) : Prop :=
  gN ≤ b ∧ b < w.heap.size ∧ ∀ j x, xs[j]? = some x → w.cell? ⟨b, o + j, none⟩ = some (sv x) ∧ w.frozen? ⟨b, o + j, none⟩ = false
theorem Own.fx {p : Nat → Prop} {w w' : World} {b o : Nat} {xs : List Int} (h : Own w b o xs) (k : Fx p w w') (hp : ¬ p b) : Own w' b o xs :=
  ⟨h.1, Nat.lt_of_lt_of_le h.2.1 k.size, fun j x hx => by rw [k.cell h.2.1 hp, k.frozen h.2.1 hp]; exact h.2.2 j x hx⟩
theorem Own.fr {w w' : World} {b o : Nat} {xs : List Int} (h : Own w b o xs) (k : Fr w w') : Own w' b o xs :=
  h.fx (p := fun _ => False) (Fx.of_fr k) (fun e => e)
theorem Own.set {w : World} {b o : Nat} {xs : List Int} (h : Own w b o xs) {k : Nat} (hk : k < xs.length) (x : Int) : Own (w.setCell ⟨b, o + k, none⟩ (sv x)) b o (xs.set k x) := by
  obtain ⟨h1, h2, h3⟩ := h
  refine ⟨h1, by simpa [World.setCell] using h2, fun j y hy => ?_⟩
  rw [World.frozen?_setCell]
  rw [List.getElem?_set] at hy
  by_cases e : k = j
  · subst e
    rw [if_pos rfl, if_pos hk] at hy
    injection hy with hy; subst hy
    have h4 := h3 k xs[k] (List.getElem?_eq_getElem hk)
    exact ⟨World.cell?_setCell_same' _ _ _ (by rw [h4.1]; rfl), h4.2⟩
  · rw [if_neg e] at hy
    have h4 := h3 j y hy
    refine ⟨?_, h4.2⟩
    rw [World.cell?_setCell_other w ⟨b, o + k, none⟩ ⟨b, o + j, none⟩ _ (fun e2 => by injection e2 with e3 e4; omega)]
    exact h4.1

def okT (q x y : Int) : Bool := decide ((-100000000 < q ∧ q < 100000000) ∧ (-100000000 < y ∧ y < 100000000) ∧ (-100000000000000000 < x ∧ x < 100000000000000000))
theorem okT_ti {q x y : Int} (h : okT q x y = true) : Ti q ∧ Ti y ∧ Sm x := by
  unfold okT at h; have h := of_decide_eq_true h; exact h
/-- a row less a multiple of another one -/
def takeL (q : Int) : List Int → List Int → Option (List Int)
  | [], _ => some []
  | x :: xs, y :: ys => if okT q x y then (takeL q xs ys).map ((x - q * y) :: ·) else none
  | _ :: _, [] => none
def takeS (q : Int) (xs ys : List Int) : Option (List Int) := if q = 0 then some xs else takeL q xs ys

theorem takeL_spec (q : Int) : ∀ (xs ys zs : List Int), takeL q xs ys = some zs → zs.length = xs.length ∧ ∀ (k : Nat) (x : Int), xs[k]? = some x → ∃ y, ys[k]? = some y ∧ okT q x y = true ∧ zs[k]? = some (x - q * y)
  | [], ys, zs, h => by
    injection h with h; subst h
    exact ⟨rfl, fun k x hx => by simp at hx⟩
  | x :: xs, [], zs, h => by simp [takeL] at h
  | x :: xs, y :: ys, zs, h => by
    simp only [takeL] at h
    split at h
    · rename_i hok
      cases e : takeL q xs ys with
      | none => rw [e] at h; simp at h
      | some ws =>
        rw [e] at h
        simp only [Option.map_some, Option.some.injEq] at h
        subst h
        obtain ⟨h1, h2⟩ := takeL_spec q xs ys ws e
        refine ⟨by simp [h1], fun k z hz => ?_⟩
        cases k with
        | zero => simp at hz; subst hz; exact ⟨y, by simp, hok, by simp⟩
        | succ k => simpa using h2 k z (by simpa using hz)
    · simp at h

theorem mid_get {α : Type} (zs xs : List α) (k : Nat) (hl : zs.length = xs.length) (hk : k < xs.length) : (zs.take k ++ xs.drop k)[k]? = xs[k]? := by
  have h1 : (zs.take k).length = k := by rw [List.length_take]; omega
  rw [List.getElem?_append_right (by omega), h1, Nat.sub_self, List.getElem?_drop, Nat.add_zero]
theorem mid_set {α : Type} (zs xs : List α) (k : Nat) (hl : zs.length = xs.length) (hk : k < xs.length) (z : α) (hz : zs[k]? = some z) : (zs.take k ++ xs.drop k).set k z = zs.take (k + 1) ++ xs.drop (k + 1) := by
  have h1 : (zs.take k).length = k := by rw [List.length_take]; omega
  rw [List.set_append_right _ _ (by omega), h1, Nat.sub_self, List.take_add_one, hz, List.drop_eq_getElem_cons hk, Option.toList_some, List.set_cons_zero, List.append_assoc, List.singleton_append]

set_option maxHeartbeats 1000000 in
theorem take_any (lb lo lc ob oo oc m : Nat) (q : Int) (xs ys zs : List Int) (w : World) (hG : G w) (hx : Own w lb lo xs) (hy : Own w ob oo ys) (hne : lb ≠ ob) (hl : xs.length ≤ 1000000000)
    (hm : m = ys.length) (hs : takeS q xs ys = some zs) :
    Calls Tryz.prog 158 #[.slice (some ⟨lb, lo, none⟩) xs.length lc, .slice (some ⟨ob, oo, none⟩) m oc, .string (tx q)] w fun e w' => e = .returned (.tuple #[]) ∧ Fx (· = lb) w w' ∧ Own w' lb lo zs := by
  have hb := tx_beq0 q
  by_cases hq0 : q = 0
  · rw [decide_eq_true hq0] at hb
    unfold takeS at hs
    rw [if_pos hq0] at hs
    injection hs with hs; subst hs
    clear hq0
    go_enter Tryz.func158, Tryz.ntmps158
    go_wp2_with fail
    exact bodyPost_ret (results_none rfl _ _ _) rfl ⟨rfl, Fx.refl _ _, hx⟩
  · rw [decide_eq_false hq0] at hb
    unfold takeS at hs
    rw [if_neg hq0] at hs
    obtain ⟨hzl, hz⟩ := takeL_spec q xs ys zs hs
    have hzl := Lib.hid hzl
    have hz := Lib.hid hz
    clear hs hq0
    subst hm
    rename_i hzl0 hz0
    clear hzl0 hz0
    go_enter Tryz.func158, Tryz.ntmps158
    go_wp2_with fail
    go_loopw [6, 11] (fun _ s11 wr => ∃ k : Nat, s11 = .int .i64 k ∧ k ≤ xs.length ∧ Fx (· = lb) w wr ∧ Own wr lb lo (zs.take k ++ xs.drop k)) (fun _ s11 _ => xs.length - (RowKit.intOf s11).toNat)
    case atStart => exact ⟨0, rfl, Nat.zero_le _, Fx.refl _ _, by simpa using hx⟩
    case round =>
      obtain ⟨k, rfl, hk, hf, ho⟩ := hrel
      by_cases hlt : k < xs.length
      · have hxk : ∃ x, xs[k]? = some x := ⟨xs[k], List.getElem?_eq_getElem hlt⟩
        obtain ⟨x, hxk⟩ := hxk
        obtain ⟨y, hyk, hok, hzk⟩ := hz.out k x hxk
        obtain ⟨tq, ty, sx⟩ := okT_ti hok
        have hm2 := mul_bd tq ty
        have sm : Sm (q * y) := ⟨by omega, by omega⟩
        have hGr := hG.fx hf (fun j e => by rw [e]; exact hx.1)
        have hoc := ho.2.2 k x (by rw [mid_get zs xs k hzl.out hlt]; exact hxk)
        have hkl : k < ys.length := (List.getElem?_eq_some_iff.1 hyk).1
        obtain ⟨hoc, hof⟩ := hoc
        obtain ⟨hyc, _⟩ := (hy.fx hf (fun e => hne e.symm)).2.2 k y hyk
        have hlb : lb < wr.heap.size := ho.2.1
        have hob : ob < wr.heap.size := (hy.fx hf (fun e => hne e.symm)).2.1
        have hxk := Lib.hid hxk
        have hyk := Lib.hid hyk
        have hzk := Lib.hid hzk
        have hset := Lib.hid (mid_set zs xs k hzl.out hlt _ hzk.out)
        have ho2 := Lib.hid ho
        rename_i hxk0 hyk0 hzk0 
        clear hxk0 hyk0 hzk0 ho hok
        have k0 : (0 : Int) ≤ (k : Int) := Int.natCast_nonneg _
        have k1 : (k : Int) < (xs.length : Int) := by omega
        have k2 : (k : Int) < (ys.length : Int) := by omega
        go_wp2_with fail
        go_region_with (first | (go_at_call 167; refine (Mul_ti q y tq ty _ (hGr.fr ?_)).mono ?_; (repeat (with_reducible first | assumption | exact Fr.refl _ | refine Fr.drew ?_ | refine Fr.drewN ?_ _ | refine Fr.alloc ?_ _ | (refine Fr.setCell ?_ (by simp only [World.size_alloc, World.size_drew, World.size_setCell]; omega) _) | refine Fr.trans ?_ (by assumption))); rintro e w1 ⟨rfl, hf1⟩; have c1 := hf1.keep (p := ⟨lb, lo + k, none⟩) hoc; have c2 := hf1.keep (p := ⟨ob, oo + k, none⟩) hyc; have c3 := hf1.keepf (p := ⟨lb, lo + k, none⟩) hoc hof) | (go_at_call 166; refine (Sub_sm x (q * y) sx sm _ (hGr.fr ?_)).mono ?_; (repeat (with_reducible first | assumption | exact Fr.refl _ | refine Fr.drew ?_ | refine Fr.drewN ?_ _ | refine Fr.alloc ?_ _ | (refine Fr.setCell ?_ (by simp only [World.size_alloc, World.size_drew, World.size_setCell]; omega) _) | refine Fr.trans ?_ (by assumption))); rintro e w2 ⟨rfl, hf2⟩; have d1 := hf2.keep c1; have d3 := hf2.keepf c1 c3))
        all_goals
          have hfr : Fr wr w2 := by repeat (with_reducible first | assumption | exact Fr.refl _ | refine Fr.drew ?_ | refine Fr.drewN ?_ _ | refine Fr.alloc ?_ _ | (refine Fr.setCell ?_ (by simp only [World.size_alloc, World.size_drew, World.size_setCell]; omega) _) | refine Fr.trans ?_ (by assumption))
          have hO := (ho2.out.fr hfr).set (k := k) (by simp; have := hzl.out; omega) (x - q * y)
          rw [hset.out] at hO
          have hF := (hf.fr hfr).setCell (q := ⟨lb, lo + k, none⟩) (.inl rfl) (sv (x - q * y))
          go_wp2_with fail
          go_roundw
          case rel => exact ⟨k + 1, by go_num, by omega, hF, hO⟩
          case measure => simp [RowKit.intOf]; omega
      · go_wp2_with fail
        go_end0
        refine ⟨rfl, hf, ?_⟩
        have : k = xs.length := by omega
        subst this
        rw [List.drop_length, List.append_nil, List.take_of_length_le (by have := hzl.out; omega)] at ho
        exact ho

theorem take_n (lb lo lc ob oo oc n m : Nat) (q : Int) (xs ys zs : List Int) (w : World) (hG : G w) (hx : Own w lb lo xs) (hy : Own w ob oo ys) (hne : lb ≠ ob) (hl : xs.length ≤ 1000000000)
    (hn : xs.length = n) (hm : ys.length = m) (hs : takeS q xs ys = some zs) :
    Calls Tryz.prog 158 #[.slice (some ⟨lb, lo, none⟩) n lc, .slice (some ⟨ob, oo, none⟩) m oc, .string (tx q)] w fun e w' => e = .returned (.tuple #[]) ∧ Fx (· = lb) w w' ∧ Own w' lb lo zs := by
  subst hn
  exact take_any lb lo lc ob oo oc m q xs ys zs w hG hx hy hne hl hm.symm hs
set_option maxHeartbeats 1000000 in
theorem turn_any (lb lo lc : Nat) (xs : List Int) (w : World) (_hG : G w) (hx : Own w lb lo xs) (_hl : xs.length ≤ 1000000000) (hs : ∀ x ∈ xs, (tx x).size ≤ 1000000000) :
    Calls Tryz.prog 179 #[.slice (some ⟨lb, lo, none⟩) xs.length lc] w fun e w' => e = .returned (.tuple #[]) ∧ Fx (· = lb) w w' ∧ Own w' lb lo (xs.map (fun x => -x)) := by
  have hzl := Lib.hid (show (xs.map (fun x => -x)).length = xs.length by simp)
  have hz : ∀ (k : Nat) (x : Int), xs[k]? = some x → (xs.map (fun x => -x))[k]? = some (-x) := fun k x h => by rw [List.getElem?_map, h]; rfl
  generalize xs.map (fun x => -x) = zs at *
  have hz := Lib.hid hz
  rename_i hz0
  clear hz0
  go_enter Tryz.func179, Tryz.ntmps179
  go_wp2_with fail
  go_loopw [2, 5] (fun _ s5 wr => ∃ k : Nat, s5 = .int .i64 k ∧ k ≤ xs.length ∧ Fx (· = lb) w wr ∧ Own wr lb lo (zs.take k ++ xs.drop k)) (fun _ s5 _ => xs.length - (RowKit.intOf s5).toNat)
  case atStart => exact ⟨0, rfl, Nat.zero_le _, Fx.refl _ _, by simpa using hx⟩
  case round =>
    obtain ⟨k, rfl, hk, hf, ho⟩ := hrel
    by_cases hlt : k < xs.length
    · obtain ⟨x, hxk⟩ : ∃ x, xs[k]? = some x := ⟨xs[k], List.getElem?_eq_getElem hlt⟩
      have hzk := hz.out k x hxk
      have hxs := hs x (List.mem_of_getElem? hxk)
      obtain ⟨hoc, hof⟩ := ho.2.2 k x (by rw [mid_get zs xs k hzl.out hlt]; exact hxk)
      have hset := Lib.hid (mid_set zs xs k hzl.out hlt _ hzk)
      have hlb : lb < wr.heap.size := ho.2.1
      have ho2 := Lib.hid ho
      clear hxk hzk ho
      go_wp2_with fail
      refine (Neg_any x _ hxs).mono ?_
      rintro e w2 ⟨rfl, hf2⟩
      have d1 := hf2.keep (p := ⟨lb, lo + k, none⟩) hoc
      have d3 := hf2.keepf (p := ⟨lb, lo + k, none⟩) hoc hof
      have hO := (ho2.out.fr hf2).set (k := k) (by simp; have := hzl.out; omega) (-x)
      rw [hset.out] at hO
      have hF := (hf.fr hf2).setCell (q := ⟨lb, lo + k, none⟩) (.inl rfl) (sv (-x))
      go_wp2_with fail
      go_roundw
      case rel => exact ⟨k + 1, by go_num, by omega, hF, hO⟩
      case measure => simp [RowKit.intOf]; omega
    · go_wp2_with fail
      go_end0
      refine ⟨rfl, hf, ?_⟩
      have : k = xs.length := by omega
      subst this
      rw [List.drop_length, List.append_nil, List.take_of_length_le (by have := hzl.out; omega)] at ho
      exact ho

/-- the place of the first that is not 0 -/
def leadS (xs : List Int) : Int := if 0 ≤ idx (fun x => x != 0) xs then idx (fun x => x != 0) xs else xs.length

theorem lead1_pred (w : World) (xs : List Int) : Pred w 155 #[] sv (fun x => x != 0) xs := fun x W _ _ => by
  show Calls Tryz.prog 155 #[.string (tx x)] W fun e W' => e = .returned (.bool (x != 0)) ∧ Fr W W'
  have hb := tx_beq0 x
  have e : (x != 0) = !(decide (x = 0)) := by by_cases h : x = 0 <;> simp [h]
  rw [e, ← hb]
  clear e hb
  go_enter Tryz.func155, Tryz.ntmps155
  go_wp2_with fail
  go_ret
  exact ⟨rfl, Fr.refl _⟩

theorem lead_any (xs : List Int) (a : Option Addr) (cap : Nat) (w : World) (hx : El w sv a xs) (hl : xs.length ≤ 1000000000) :
    Calls Tryz.prog 123 #[.slice a xs.length cap] w fun e w' => e = .returned (.int .i64 (leadS xs)) ∧ Fr w w' := by
  have eg : ∀ args w, (callFunc 155 args).run Tryz.prog w = .ok (.enter 155 args) w := enters_of Tryz.func155 (by kernel_rfl) rfl
  have hc := IndexFunc_txs xs a cap 155 #[] (fun x => x != 0) w eg hx hl (lead1_pred w xs)
  clear eg
  have hd : leadS xs = if 0 ≤ idx (fun x => x != 0) xs then idx (fun x => x != 0) xs else xs.length := rfl
  generalize idx (fun x => x != 0) xs = r at *
  have hd := Lib.hid hd
  rename_i hd0
  clear hd0
  by_cases h : 0 ≤ r
  · go_enter Tryz.func123, Tryz.ntmps123
    go_wp2_with fail
    refine hc.mono ?_; rintro e w' ⟨rfl, hf⟩
    go_wp2_with fail
    go_ret
    exact ⟨ret_int (by rw [hd.out, if_pos h]), hf⟩
  · have hfin := Lib.hid (show leadS xs = xs.length by rw [hd.out, if_neg h])
    have hlt : r < 0 := by omega
    go_enter Tryz.func123, Tryz.ntmps123
    go_wp2_with fail
    refine hc.mono ?_; rintro e w' ⟨rfl, hf⟩
    go_wp2_with fail
    go_ret
    exact ⟨ret_int hfin.out.symm, hf⟩
end Go.Proofs.YtphjfalibnnohaaGreatDoor
