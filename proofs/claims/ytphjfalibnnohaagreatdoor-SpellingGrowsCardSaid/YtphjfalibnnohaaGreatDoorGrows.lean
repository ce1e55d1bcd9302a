/- What schismalaw43.SpellingGrows calls: All, Read and DeleteFunc at a small notation. -/
import Derived.Test.YtphjfalibnnohaaGreatDoorKnown
namespace Go.Proofs.YtphjfalibnnohaaGreatDoor
open Go.RowKit Go.Lib
attribute [local go_sem ↓] Go.wp_at_zero Go.wp_at_succ

theorem BXs.fxlt {w0 W W' : World} {a : Option Addr} {xs : List BX} {g : Nat} (h : BXs w0 a xs) (hf : Fr w0 W) (k : Fx (· = g) W W') (hg : w0.heap.size ≤ g) : BXs W' a xs := by
  refine h.fr (((Fx.of_fr hf).trans k).toFr (fun j hj e => by have e : j = g := e; omega))

/-- DeleteFunc in a row of the call's own, the function reading what was there before -/
theorem DelGen (gF : Nat) (lb : Array Value) (p : BX → Bool) (a : Option Addr) (c : Nat) (K : List BX) (base : Nat) (w0 W : World) (eg : ∀ args w, (callFunc gF args).run Tryz.prog w = .ok (.enter gF args) w) (hown : OwnSp W base a c K) (hw0 : Fr w0 W) (hb0 : w0.heap.size ≤ base) (hK : K.length ≤ 1000000)
    (hcl : ∀ x, x ∈ K → ∀ W', Fr w0 W' → El W' iv (some ⟨x.g, 0, none⟩) x.cs → Calls Tryz.prog gF (#[.agg #[x.enc2.1, x.enc2.2]] ++ lb) W' fun e w' => e = .returned (.bool (p x)) ∧ Fr W' w') :
    Calls Tryz.prog 10 #[.slice a K.length c, .func (.func gF) #[] lb] W fun e W' => ∃ c' : Nat, ∃ K' : List BX, K' = keepL p K ∧ e = .returned (.slice a K'.length c') ∧ BXs W' a K' ∧ Fr w0 W' := by
  rcases hown.addr with ⟨rfl, rfl, rfl⟩ | ⟨g, rfl⟩
  · refine (DeleteFunc_nil gF lb W eg).mono ?_
    rintro e W' ⟨rfl, hf⟩
    exact ⟨0, [], rfl, rfl, ⟨.inl rfl, fun x hx => by simp at hx⟩, hw0.trans hf⟩
  · obtain ⟨hcnt, hcap, hg⟩ := hown.cnt
    have hfr : ∀ W', Fx (· = g) W W' → Fr w0 W' := fun W' hW' => ((Fx.of_fr hw0).trans hW').toFr (fun k hk e => by have e : k = g := e; omega)
    have hel : ∀ x, x ∈ K → ∀ W', Fx (· = g) W W' → El W' iv (some ⟨x.g, 0, none⟩) x.cs := fun x hx W' hW' => by
      obtain ⟨e1, e2, e3, e4⟩ := hown.el x hx
      exact e4.fx hW' (fun e => e3 (by rw [show x.g = g from e]; rfl))
    refine (DeleteFunc_spl BX.enc2 K g c gF lb p W eg hcnt (by omega) hcap (fun x => ⟨_, _, _, _, rfl⟩) (fun x hx W' hW' => hcl x hx W' (hfr W' hW') (hel x hx W' hW'))).mono ?_
    rintro e W' ⟨rfl, h1, h2⟩
    exact ⟨c, _, rfl, rfl, ⟨h1, fun x hx => hel x (List.mem_filter.1 hx).1 W' h2⟩, hfr W' h2⟩

theorem not_out (k : Nat) (c : Int) : (!outB k c) = decide (-(k : Int) ≤ c ∧ c ≤ k) := by
  unfold outB
  by_cases h1 : (k : Int) < c
  · rw [decide_eq_true h1, decide_eq_false (p := -(k : Int) ≤ c ∧ c ≤ k) (by omega)]; rfl
  · by_cases h2 : c < -(k : Int)
    · rw [decide_eq_true h2, decide_eq_false (p := -(k : Int) ≤ c ∧ c ≤ k) (by omega)]; simp
    · rw [decide_eq_false h1, decide_eq_false h2, decide_eq_true (by omega)]; rfl
theorem not_any_out (k : Nat) : ∀ l : List Int, (!l.any (outB k)) = inB k l
  | [] => rfl
  | c :: l => by
    have ih := not_any_out k l
    unfold inB at ih ⊢
    rw [List.any_cons, List.all_cons, Bool.not_or, ih, not_out]
theorem keep_out (k : Nat) (K : List BX) : (keepL (fun x => x.cs.any (outB k)) K).map stripX = (K.map stripX).filter fun s => inB k s.2 := by
  unfold keepL
  have e : (fun x : BX => !x.cs.any (outB k)) = (fun s : Nat × List Int => inB k s.2) ∘ stripX := by
    funext x
    exact not_any_out k x.cs
  rw [e, List.filter_map]

/-- the row that the law asks for -/
def rowG (two : Bool) (x y : Int) : List Int := x :: if two then [y] else []
theorem rowG_length (two : Bool) (x y : Int) : (rowG two x y).length = dMk two := by unfold rowG dMk; cases two <;> rfl

theorem bdE_small {mst : Int} (h : 0 ≤ mst ∧ mst ≤ 3) : ∀ (a tot : Nat), tot * 7 ^ a ≤ 20000 → bdE tot mst a = 0
  | 0, _, _ => rfl
  | a + 1, tot, ht => by
    obtain ⟨m, rfl⟩ : ∃ m : Nat, mst = m := ⟨mst.toNat, by omega⟩
    have e : ((tot : Int) * (2 * m + 1)) = ((tot * (2 * m + 1) : Nat) : Int) := by simp
    have h1 : tot * (2 * m + 1) ≤ tot * 7 := Nat.mul_le_mul_left _ (by omega)
    have h2 : tot * (2 * m + 1) * 7 ^ a ≤ tot * 7 ^ (a + 1) := by
      rw [Nat.pow_succ, Nat.mul_comm (7 ^ a) 7, ← Nat.mul_assoc]; exact Nat.mul_le_mul_right _ h1
    have h3 : tot * (2 * m + 1) ≤ tot * (2 * m + 1) * 7 ^ a := Nat.le_mul_of_pos_right _ (Nat.pow_pos (by decide))
    rw [bdE, if_neg (by omega), e, if_neg (by omega)]
    exact bdE_small h a _ (by omega)
theorem allE9_ok {d n a : Nat} {R : List Int} {mst : Int} (hn : n ≤ 4) (ha : a ≤ 3) (hR : R.length = d) (hd : d ≤ 64) (hf : ∀ x, x ∈ R → fitB x = true) (h : 0 ≤ mst ∧ mst ≤ 3) : allE9 d n a R mst = 0 := by
  have h1 : rowE R = 0 := rowE_ok (by omega) (by rw [List.any_eq_false]; intro x hx; rw [hf x hx]; simp)
  unfold allE9
  rw [if_neg (by simp [h1]), if_neg (by simp [hR])]
  unfold boundE
  rw [if_neg (by omega)]
  refine bdE_small h a n ?_
  have : 7 ^ a ≤ 7 ^ 3 := Nat.pow_le_pow_right (by decide) ha
  have h7 : (7 : Nat) ^ 3 = 343 := by decide
  rw [h7] at this
  have := Nat.mul_le_mul hn this
  omega

/-- All at a small notation: no error -/
theorem GAll {d : Nat} {aN aA : Option Addr} {cN cA : Nat} {N A : List Sy} {R : List Int} {w2 : World} (hn : NotIs w2 aN aA cA N A) (hok : NotOk d N A) (hNl : N.length ≤ 4) (hAl : A.length ≤ 3) (hd1 : 1 ≤ d ∧ d ≤ 2) (hRl : R.length = d) (hRf : ∀ z, z ∈ R → fitB z = true)
    (W : World) (mst : Int) (ra : Option Addr) (rc : Nat) (hW : Fr w2 W) (hm : 0 ≤ mst ∧ mst ≤ 3) (hr : El W iv ra R) :
    Calls Tryz.prog 9 #[.agg #[.slice aN N.length cN, .slice aA A.length cA], .slice ra d rc, .int .i64 mst] W fun e w' => ∃ a c xs, e = .returned (.tuple #[.slice a xs.length c, .int .i64 0]) ∧ OwnSp w' W.heap.size a c xs ∧ xs.map stripX = allR (N.map Sy.row) (A.map Sy.row) R mst.toNat ∧ Fr W w' := by
  have h := All_any d aN aA cN cA N A R ra rc mst W (hn.fr hW) hok hd1.1 hr (by omega) (fun _ => by omega)
  rw [allE9_ok hNl hAl hRl (by omega) hRf hm, allL_R, hRl] at h
  refine h.mono fun e w' h => ?_
  obtain ⟨h1, _, h3⟩ := h
  obtain ⟨a, c, xs, e1, e2, e3⟩ := h1 rfl
  exact ⟨a, c, xs, e1, e2, e3, h3⟩
/-- Read at what All found -/
theorem GRead {d : Nat} {aN aA : Option Addr} {cN cA : Nat} {N A : List Sy} {R : List Int} {w2 : World} (hn : NotIs w2 aN aA cA N A) (hok : NotOk d N A) (hAl : A.length ≤ 3) (hd1 : 1 ≤ d ∧ d ≤ 2) (hRl : R.length = d) (hRf : ∀ z, z ∈ R → fitB z = true)
    (m : Nat) (hm : m ≤ 4) (W : World) (x : BX) (hW : Fr w2 W) (hx : stripX x ∈ allR (N.map Sy.row) (A.map Sy.row) R m) (he : El W iv (some ⟨x.g, 0, none⟩) x.cs) :
    Calls Tryz.prog 14 #[.agg #[.slice aN N.length cN, .slice aA A.length cA], .agg #[.int .i64 x.i, .slice (some ⟨x.g, 0, none⟩) x.cs.length x.c]] W fun e w' => ∃ g c, e = .returned (.tuple #[.slice (some ⟨g, 0, none⟩) d c, .int .i64 0]) ∧ El w' iv (some ⟨g, 0, none⟩) R ∧ Fr W w' := by
  obtain ⟨i1, i2, i3, i4⟩ := allR_mem hx
  rw [List.length_map] at i1 i2
  have i1 : x.i < N.length := i1
  have i2 : x.cs.length = A.length := i2
  have i3 : ∀ c, c ∈ x.cs → -(m : Int) ≤ c ∧ c ≤ m := i3
  have i4 : sumS N A (x.i, x.cs) = R := by rw [sumS_R]; exact i4
  have hsp : spE N A x.i x.cs = 0 := spE_ok i1 i2 (by omega) (fun c hc => by have := i3 c hc; unfold fitB; exact decide_eq_true (by omega))
  have hrd : readE N A x.i x.cs = 0 := by
    unfold readE
    rw [if_pos hsp, show ((x.i : Int)).toNat = x.i from rfl, i4]
    exact rowE_ok (by omega) (by rw [List.any_eq_false]; intro z hz; rw [hRf z hz]; simp)
  have h := Read_any d aN aA cN cA N A ⟨x.i, x.cs, some ⟨x.g, 0, none⟩, x.c⟩ W (hn.fr hW) hok hd1.1 he (show x.cs.length ≤ 1000000000 by omega)
  rw [show readE N A (Sp.i ⟨x.i, x.cs, some ⟨x.g, 0, none⟩, x.c⟩) (Sp.cs ⟨x.i, x.cs, some ⟨x.g, 0, none⟩, x.c⟩) = 0 from hrd, show sumS N A ((Sp.i ⟨x.i, x.cs, some ⟨x.g, 0, none⟩, x.c⟩).toNat, (Sp.cs ⟨x.i, x.cs, some ⟨x.g, 0, none⟩, x.c⟩)) = R from i4] at h
  refine h.mono fun e w' h => ?_
  obtain ⟨h1, _, h3⟩ := h
  obtain ⟨g, c, e1, _, e2⟩ := h1 rfl
  rw [hRl] at e1
  exact ⟨g, c, e1, e2, h3⟩
theorem enters_grows1 : ∀ args w, (callFunc 11 args).run Tryz.prog w = .ok (.enter 11 args) w := enters_of Tryz.func11 (by kernel_rfl) rfl
/-- DeleteFunc of what is beyond the bound -/
theorem GDel {Nr Ar : List (List Int)} {R : List Int} (hNl : Nr.length ≤ 4) (hAl : Ar.length ≤ 3) (m k : Nat) (hm : m ≤ 4) (hk : k ≤ 4) (w0 W : World) (a : Option Addr) (c base p : Nat) (K : List BX) (hK : K.map stripX = allR Nr Ar R m) (hown : OwnSp W base a c K) (hw0 : Fr w0 W) (hb0 : w0.heap.size ≤ base) (hc : w0.cell? ⟨p, 0, none⟩ = some (.int .i64 k)) :
    Calls Tryz.prog 10 #[.slice a K.length c, .func (.func 11) #[] #[.pointer (some ⟨p, 0, none⟩)]] W fun e W' => ∃ c' : Nat, ∃ K' : List BX, e = .returned (.slice a K'.length c') ∧ K'.map stripX = (allR Nr Ar R m).filter (fun s => inB k s.2) ∧ BXs W' a K' ∧ Fr w0 W' := by
  have hsz : K.length ≤ 1000000 := by
    have h1 := allR_size Nr Ar R m
    rw [← hK, List.length_map] at h1
    have h2 : (2 * m + 1) ^ Ar.length ≤ 9 ^ 3 := Nat.le_trans (Nat.pow_le_pow_left (by omega) _) (Nat.pow_le_pow_right (by decide) hAl)
    have h3 := Nat.mul_le_mul hNl h2
    have h4 : (9 : Nat) ^ 3 = 729 := by decide
    omega
  have hl : ∀ x, x ∈ K → x.cs.length ≤ 1000000 := fun x hx => by
    have h1 : stripX x ∈ allR Nr Ar R m := by rw [← hK]; exact List.mem_map_of_mem hx
    have h2 : x.cs.length = Ar.length := (allR_mem h1).2.1
    omega
  refine (DelGen 11 #[.pointer (some ⟨p, 0, none⟩)] (fun x => x.cs.any (outB k)) a c K base w0 W enters_grows1 hown hw0 hb0 hsz (fun x hx W' hW' he => Grows1_any x k p W' (hW'.keep hc) (by omega) (by omega) he (hl x hx))).mono ?_
  rintro e W' ⟨c', K', rfl, rfl, h1, h2⟩
  exact ⟨c', _, rfl, by rw [keep_out, hK], h1, h2⟩
end Go.Proofs.YtphjfalibnnohaaGreatDoor
