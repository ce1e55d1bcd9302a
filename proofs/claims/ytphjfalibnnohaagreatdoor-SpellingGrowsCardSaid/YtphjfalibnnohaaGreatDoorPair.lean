/- Slices of structs of two cells (symbols, spellings) that read as lists; IndexFunc, ContainsFunc over them; IsName. -/
import Derived.Test.YtphjfalibnnohaaGreatDoorRow
import Derived.WalkSpells
namespace Go.Proofs.YtphjfalibnnohaaGreatDoor
open Go.RowKit Go.Lib

theorem new2a (w : World) (x y : Value) (t : TypeId) : (w.alloc (.cells #[x, y] t)).cell? ⟨w.heap.size, 0, none⟩ = some x ∧ (w.alloc (.cells #[x, y] t)).frozen? ⟨w.heap.size, 0, none⟩ = false := by
  have h := heap_alloc_new w (.cells #[x, y] t (0, 0))
  exact ⟨by unfold World.cell?; rw [h]; rfl, by unfold World.frozen?; rw [h]; rfl⟩
theorem new2b (w : World) (x y : Value) (t : TypeId) : (w.alloc (.cells #[x, y] t)).cell? ⟨w.heap.size, 1, none⟩ = some y ∧ (w.alloc (.cells #[x, y] t)).frozen? ⟨w.heap.size, 1, none⟩ = false := by
  have h := heap_alloc_new w (.cells #[x, y] t (0, 0))
  exact ⟨by unfold World.cell?; rw [h]; rfl, by unfold World.frozen?; rw [h]; rfl⟩

/-- the cells of a slice of pairs -/
def Prs (w : World) (a : Option Addr) (xs : List (Value × Value)) : Prop :=
  xs = [] ∨ ∃ b o, a = some ⟨b, o, none⟩ ∧ b < w.heap.size ∧ ∀ i x, xs[i]? = some x → w.cell? ⟨b, o + i * 2, none⟩ = some x.1 ∧ w.cell? ⟨b, o + i * 2 + 1, none⟩ = some x.2
theorem Prs.fr {w w' : World} {a : Option Addr} {xs : List (Value × Value)} (h : Prs w a xs) (k : Fr w w') : Prs w' a xs := by
  rcases h with h | ⟨b, o, ha, hb, hc⟩
  · exact .inl h
  · exact .inr ⟨b, o, ha, Nat.lt_of_lt_of_le hb k.size, fun i x hx => by rw [k.cell hb, k.cell hb]; exact hc i x hx⟩
theorem Prs.at {w : World} {a : Option Addr} {xs : List (Value × Value)} (h : Prs w a xs) {i : Nat} (hi : i < xs.length) :
    ∃ b o x, a = some ⟨b, o, none⟩ ∧ b < w.heap.size ∧ xs[i]? = some x ∧ w.cell? ⟨b, o + i * 2, none⟩ = some x.1 ∧ w.cell? ⟨b, o + i * 2 + 1, none⟩ = some x.2 := by
  rcases h with h | ⟨b, o, ha, hb, hc⟩
  · subst h; simp at hi
  · exact ⟨b, o, xs[i], ha, hb, List.getElem?_eq_getElem hi, hc i _ (List.getElem?_eq_getElem hi)⟩
theorem Prs.take {w : World} {a : Option Addr} {xs : List (Value × Value)} (h : Prs w a xs) (n : Nat) : Prs w a (xs.take n) := by
  rcases h with h | ⟨b, o, ha, hb, hc⟩
  · subst h; exact .inl (by simp)
  · refine .inr ⟨b, o, ha, hb, fun i x hx => hc i x ?_⟩
    rw [List.getElem?_take] at hx
    split at hx
    · exact hx
    · simp at hx

/-- a function that says yes or no of a pair, in any later world -/
def PredP {α : Type} (w : World) (g : Nat) (cap : Array Value) (enc : α → Value × Value) (p : α → Bool) (xs : List α) : Prop :=
  ∀ x W, x ∈ xs → Fr w W → Calls Tryz.prog g (#[.agg #[(enc x).1, (enc x).2]] ++ cap) W fun e W' => e = .returned (.bool (p x)) ∧ Fr W W'

set_option maxHeartbeats 400000 in
theorem IndexFunc_sym {α : Type} (enc : α → Value × Value) (xs : List α) (a : Option Addr) (cap : Nat) (g : Nat) (lb : Array Value) (p : α → Bool) (w : World)
    (eg : ∀ args w, (callFunc g args).run Tryz.prog w = .ok (.enter g args) w) (hx : Prs w a (xs.map enc)) (hl : xs.length ≤ 1000000000) (hp : PredP w g lb enc p xs) :
    Calls Tryz.prog 99 #[.slice a xs.length cap, .func (.func g) #[] lb] w fun e w' => e = .returned (.int .i64 (idx p xs)) ∧ Fr w w' := by
  go_enter Tryz.func99, Tryz.ntmps99
  go_wp2
  go_loopw [5, 8] (fun _ s8 wr => ∃ k : Nat, s8 = .int .i64 k ∧ k ≤ xs.length ∧ Fr w wr ∧ Hid (∀ j x, j < k → xs[j]? = some x → p x = false)) (fun _ s8 _ => xs.length - (RowKit.intOf s8).toNat)
  case atStart => exact ⟨0, rfl, Nat.zero_le _, Fr.refl _, fun j x h => absurd h (Nat.not_lt_zero _)⟩
  case round =>
    obtain ⟨k, rfl, hk, hf, hb⟩ := hrel
    by_cases hlt : k < xs.length
    · obtain ⟨b, o, z, rfl, hbl, hzk, hcell, hcell2⟩ := (hx.fr hf).at (i := k) (by rw [List.length_map]; exact hlt)
      obtain ⟨x, hxk, rfl⟩ : ∃ x, xs[k]? = some x ∧ enc x = z := by
        rw [List.getElem?_map] at hzk
        cases e : xs[k]? with
        | none => rw [e] at hzk; simp at hzk
        | some x => rw [e] at hzk; injection hzk with hzk; exact ⟨x, rfl, hzk⟩
      have hpx := hp x wr (List.mem_of_getElem? hxk) hf
      have hxk := Lib.hid hxk
      clear hzk
      go_wp2_with fail
      refine hpx.mono ?_
      rintro e w1 ⟨rfl, hf1⟩
      go_wp2_with fail
      · have hpt : p x = true := by assumption
        go_ret
        exact ⟨ret_int (idx_found hb.out hxk.out hpt).symm, hf.trans hf1⟩
      · have hpf : p x = false := by assumption
        go_roundw
        case rel => exact ⟨k + 1, by go_num, by omega, hf.trans hf1, idx_step hb.out hxk.out hpf⟩
        case measure => simp [RowKit.intOf]; omega
    · go_wp2_with fail
      go_ret
      exact ⟨ret_int (idx_none (by rw [show xs.length = k by omega]; exact hb.out)).symm, hf⟩
theorem ContainsFunc_sym {α : Type} (enc : α → Value × Value) (xs : List α) (a : Option Addr) (cap : Nat) (g : Nat) (lb : Array Value) (p : α → Bool) (w : World)
    (eg : ∀ args w, (callFunc g args).run Tryz.prog w = .ok (.enter g args) w) (hx : Prs w a (xs.map enc)) (hl : xs.length ≤ 1000000000) (hp : PredP w g lb enc p xs) :
    Calls Tryz.prog 70 #[.slice a xs.length cap, .func (.func g) #[] lb] w fun e w' => e = .returned (.bool (xs.any p)) ∧ Fr w w' := by
  rw [← idx_any]
  have hc := IndexFunc_sym enc xs a cap g lb p w eg hx hl hp
  clear hp
  go_enter Tryz.func70, Tryz.ntmps70
  go_wp2_with fail
  refine hc.mono ?_
  rintro e w' ⟨rfl, hf⟩
  go_wp2_with fail
  go_ret
  exact ⟨rfl, hf⟩
set_option maxHeartbeats 400000 in
theorem IndexFunc_spl {α : Type} (enc : α → Value × Value) (xs : List α) (a : Option Addr) (cap : Nat) (g : Nat) (lb : Array Value) (p : α → Bool) (w : World)
    (eg : ∀ args w, (callFunc g args).run Tryz.prog w = .ok (.enter g args) w) (hx : Prs w a (xs.map enc)) (hl : xs.length ≤ 1000000000) (hp : PredP w g lb enc p xs) :
    Calls Tryz.prog 39 #[.slice a xs.length cap, .func (.func g) #[] lb] w fun e w' => e = .returned (.int .i64 (idx p xs)) ∧ Fr w w' := by
  go_enter Tryz.func39, Tryz.ntmps39
  go_wp2
  go_loopw [5, 8] (fun _ s8 wr => ∃ k : Nat, s8 = .int .i64 k ∧ k ≤ xs.length ∧ Fr w wr ∧ Hid (∀ j x, j < k → xs[j]? = some x → p x = false)) (fun _ s8 _ => xs.length - (RowKit.intOf s8).toNat)
  case atStart => exact ⟨0, rfl, Nat.zero_le _, Fr.refl _, fun j x h => absurd h (Nat.not_lt_zero _)⟩
  case round =>
    obtain ⟨k, rfl, hk, hf, hb⟩ := hrel
    by_cases hlt : k < xs.length
    · obtain ⟨b, o, z, rfl, hbl, hzk, hcell, hcell2⟩ := (hx.fr hf).at (i := k) (by rw [List.length_map]; exact hlt)
      obtain ⟨x, hxk, rfl⟩ : ∃ x, xs[k]? = some x ∧ enc x = z := by
        rw [List.getElem?_map] at hzk
        cases e : xs[k]? with
        | none => rw [e] at hzk; simp at hzk
        | some x => rw [e] at hzk; injection hzk with hzk; exact ⟨x, rfl, hzk⟩
      have hpx := hp x wr (List.mem_of_getElem? hxk) hf
      have hxk := Lib.hid hxk
      clear hzk
      go_wp2_with fail
      refine hpx.mono ?_
      rintro e w1 ⟨rfl, hf1⟩
      go_wp2_with fail
      · have hpt : p x = true := by assumption
        go_ret
        exact ⟨ret_int (idx_found hb.out hxk.out hpt).symm, hf.trans hf1⟩
      · have hpf : p x = false := by assumption
        go_roundw
        case rel => exact ⟨k + 1, by go_num, by omega, hf.trans hf1, idx_step hb.out hxk.out hpf⟩
        case measure => simp [RowKit.intOf]; omega
    · go_wp2_with fail
      go_ret
      exact ⟨ret_int (idx_none (by rw [show xs.length = k by omega]; exact hb.out)).symm, hf⟩

/-! ### names -/
def nameByte (c : UInt8) : Bool := decide (33 ≤ c.toNat ∧ c.toNat ≤ 126 ∧ ¬ (48 ≤ c.toNat ∧ c.toNat ≤ 57) ∧ c.toNat ≠ 43 ∧ c.toNat ≠ 45)
def isName (s : ByteArray) : Bool := decide (s.size ≠ 0 ∧ s.size ≤ 32) && s.data.toList.all nameByte

set_option maxHeartbeats 1000000 in
theorem IsName_any (s : ByteArray) (w : World) (hs : s.size ≤ 1000000000) :
    Calls Tryz.prog 69 #[.string s] w fun e w' => e = .returned (.bool (isName s)) ∧ w = w' := by
  by_cases h0 : s.size = 0
  · have hfin := Lib.hid (show isName s = false by unfold isName; rw [decide_eq_false (by omega)]; rfl)
    have e : s.toList = [] := by
      have : s.toList.length = 0 := by rw [← h0, ByteArray.toList_eq]; rfl
      exact List.eq_nil_of_length_eq_zero this
    have e2 : s.toList.isEmpty = true := by rw [e]; rfl
    replace e := Lib.hid e
    clear h0
    go_enter Tryz.func69, Tryz.ntmps69
    go_wp2_with fail
    go_ret
    exact ⟨ret_bool hfin.out.symm, rfl⟩
  · have e2 : s.toList.isEmpty = false := by
      have : s.toList.length = s.size := by rw [ByteArray.toList_eq]; rfl
      cases hh : s.toList with
      | nil => rw [hh] at this; simp at this; omega
      | cons => rfl
    by_cases h1 : 32 < s.size
    · have hfin := Lib.hid (show isName s = false by unfold isName; rw [decide_eq_false (by omega)]; rfl)
      have d1 : decide ((32 : Int) < (s.size : Int)) = true := decide_eq_true (by omega)
      clear h0
      go_enter Tryz.func69, Tryz.ntmps69
      go_wp2_with fail
      go_ret
      exact ⟨ret_bool hfin.out.symm, rfl⟩
    · have d1 : decide ((32 : Int) < (s.size : Int)) = false := decide_eq_false (by omega)
      have hsz := Lib.hid (show decide (s.size ≠ 0 ∧ s.size ≤ 32) = true from decide_eq_true ⟨h0, by omega⟩)
      clear h0 h1
      go_enter Tryz.func69, Tryz.ntmps69
      go_wp2_with fail
      go_loopg [14] s.size (fun g s14 wr => ∃ k : Nat, s14 = .int .i64 k ∧ k + g = s.size ∧ Hid ((s.data.toList.take k).all nameByte = true) ∧ w = wr)
      case atStart => exact ⟨0, rfl, by omega, rfl, rfl⟩
      case round =>
        obtain ⟨k, rfl, hk, hb, rfl⟩ := hrel
        by_cases hlt : k < s.size
        · have hsn := Lib.hid (show s.data.toList.take (k + 1) = s.data.toList.take k ++ [s[k]] by rw [List.take_succ_eq_append_getElem (by simpa using hlt)]; rfl)
          have hc : ∃ c, s[k] = c := ⟨_, rfl⟩
          obtain ⟨c, hc⟩ := hc
          rw [hc] at hsn
          have hbad := Lib.hid (show nameByte c = false → isName s = false from fun hok => by
            unfold isName
            rw [List.all_eq_false.2 ⟨c, ?_, by rw [hok]; simp⟩]
            · simp
            · have : c ∈ s.data.toList.take (k + 1) := by rw [hsn.out]; simp
              exact List.mem_of_mem_take this)
          have hgood := Lib.hid (show nameByte c = true → (s.data.toList.take (k + 1)).all nameByte = true from fun hok => by
            rw [hsn.out, List.all_append, hb.out]; simp [hok])
          clear hsn hb
          have z0 : (0 : Int) ≤ (k : Int) := by omega
          by_cases e43 : c.toNat = 43
          · have q43 : ((c.toNat : Int) == 43) = true := by rw [e43]; rfl
            have hfin := Lib.hid (hbad.out (by unfold nameByte; exact decide_eq_false (fun h => h.2.2.2.1 e43)))
            have e1 : (33 : Int) ≤ c.toNat := by omega
            have e2 : (c.toNat : Int) ≤ 126 := by omega
            have e3 : (c.toNat : Int) < 48 := by omega
            clear e43 hbad hgood
            go_wp2_with fail
            all_goals
              go_ret
              exact ⟨ret_bool hfin.out.symm, rfl⟩
          · by_cases e45 : c.toNat = 45
            · have q45 : ((c.toNat : Int) == 45) = true := by rw [e45]; rfl
              have q43 : ((c.toNat : Int) == 43) = false := beq_false_of_ne (by omega)
              have hfin := Lib.hid (hbad.out (by unfold nameByte; exact decide_eq_false (fun h => h.2.2.2.2 e45)))
              have e1 : (33 : Int) ≤ c.toNat := by omega
              have e2 : (c.toNat : Int) ≤ 126 := by omega
              have e3 : (c.toNat : Int) < 48 := by omega
              clear e43 e45 hbad hgood
              go_wp2_with fail
              all_goals
                go_ret
                exact ⟨ret_bool hfin.out.symm, rfl⟩
            · have q45 : ((c.toNat : Int) == 45) = false := beq_false_of_ne (by omega)
              have q43 : ((c.toNat : Int) == 43) = false := beq_false_of_ne (by omega)
              have e43 := Lib.hid e43
              have e45 := Lib.hid e45
              rename_i r1 r2
              clear r1 r2
              go_wp2_with fail
              all_goals first
                | (have hok : nameByte c = true := by
                     unfold nameByte
                     exact decide_eq_true ⟨by omega, by omega, by omega, e43.out, e45.out⟩
                   go_roundg (gk - 1)
                   case measure => omega
                   case rel => exact ⟨k + 1, by go_num, by omega, hgood.out hok, rfl⟩)
                | (have hok : nameByte c = false := by
                     unfold nameByte
                     exact decide_eq_false (fun h => by have h1 := h.1; have h2 := h.2.1; have h3 := h.2.2.1; omega)
                   go_ret
                   exact ⟨ret_bool (hbad.out hok).symm, rfl⟩)
        · have hfin := Lib.hid (show isName s = true by
            have h := hb.out
            rw [List.take_of_length_le (by have : s.data.toList.length = s.size := rfl; omega)] at h
            unfold isName
            rw [hsz.out, h]; rfl)
          have hd : decide (k < s.size) = false := decide_eq_false hlt
          go_wp2_with fail
          go_ret
          exact ⟨ret_bool hfin.out.symm, rfl⟩
end Go.Proofs.YtphjfalibnnohaaGreatDoor
