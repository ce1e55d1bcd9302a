/- The order of spellings, in plain lists; sorting; filtering. -/
import Derived.Test.YtphjfalibnnohaaGreatDoorOdo
import Derived.Shelf.SlSortCmp.Insertion
namespace Go.Proofs.YtphjfalibnnohaaGreatDoor
open Go.Sort

def cx : List Int → Int
  | [] => 0
  | x :: l => (x.natAbs : Int) + cx l
def cmpR : List Int → List Int → Int
  | [], [] => 0
  | [], _ :: _ => -1
  | _ :: _, [] => 1
  | x :: xs, y :: ys => if Lib.compareInt x y = 0 then cmpR xs ys else Lib.compareInt x y
def orL : List Int → Int
  | [] => 0
  | x :: l => if x = 0 then orL l else x
/-- how spellings are ordered -/
def ordS (s t : Int × List Int) : Int := orL [Lib.compareInt (cx s.2) (cx t.2), Lib.compareInt s.1 t.1, cmpR s.2 t.2]

theorem ci_refl (x : Int) : Lib.compareInt x x = 0 := by unfold Lib.compareInt; simp
theorem ci_eq {x y : Int} (h : Lib.compareInt x y = 0) : x = y := by
  unfold Lib.compareInt at h; split at h
  · omega
  · split at h
    · omega
    · omega
theorem ci_neg (x y : Int) : Lib.compareInt y x = - Lib.compareInt x y := by
  unfold Lib.compareInt; split <;> split <;> (first | omega | (split <;> omega) | skip)
theorem ci_lt {x y : Int} : Lib.compareInt x y < 0 ↔ x < y := by
  unfold Lib.compareInt; split
  · omega
  · split <;> omega

theorem cmpR_refl : ∀ l, cmpR l l = 0
  | [] => rfl
  | x :: l => by rw [cmpR, ci_refl, if_pos rfl, cmpR_refl l]
theorem cmpR_eq : ∀ l m, cmpR l m = 0 → l = m
  | [], [], _ => rfl
  | [], _ :: _, h => by simp [cmpR] at h
  | _ :: _, [], h => by simp [cmpR] at h
  | x :: l, y :: m, h => by
    rw [cmpR] at h
    by_cases e : Lib.compareInt x y = 0
    · rw [if_pos e] at h; rw [ci_eq e, cmpR_eq l m h]
    · rw [if_neg e] at h; exact absurd h e
theorem cmpR_neg : ∀ l m, cmpR m l = - cmpR l m
  | [], [] => rfl
  | [], _ :: _ => rfl
  | _ :: _, [] => rfl
  | x :: l, y :: m => by
    rw [cmpR, cmpR, ci_neg x y, cmpR_neg l m]
    by_cases e : Lib.compareInt x y = 0
    · rw [if_pos e, if_pos (by omega)]
    · rw [if_neg e, if_neg (by omega)]
theorem cmpR_trans : ∀ l m n, cmpR l m < 0 → cmpR m n < 0 → cmpR l n < 0
  | [], [], _, h, _ => by simp [cmpR] at h
  | [], _ :: _, [], _, h => by simp [cmpR] at h
  | [], _ :: _, _ :: _, _, _ => by simp [cmpR]
  | _ :: _, [], _, h, _ => by simp [cmpR] at h
  | _ :: _, _ :: _, [], _, h => by simp [cmpR] at h
  | x :: l, y :: m, z :: n, h, k => by
    rw [cmpR] at h k ⊢
    have a1 := @ci_lt x y
    have a2 := @ci_lt y z
    have a3 := @ci_lt x z
    by_cases e1 : Lib.compareInt x y = 0
    · have e1' := ci_eq e1
      subst e1'
      rw [if_pos e1] at h
      by_cases e2 : Lib.compareInt x z = 0
      · rw [if_pos e2] at k ⊢; exact cmpR_trans l m n h k
      · rw [if_neg e2] at k ⊢; exact k
    · rw [if_neg e1] at h
      by_cases e2 : Lib.compareInt y z = 0
      · have e2' := ci_eq e2
        subst e2'
        rw [if_neg e1]; exact h
      · rw [if_neg e2] at k
        have b : x < z := by have := a1.1 h; have := a2.1 k; omega
        rw [if_neg (fun e => by rw [ci_eq e] at b; omega)]
        exact a3.2 b

theorem ordS_refl (s) : ordS s s = 0 := by simp [ordS, orL, ci_refl, cmpR_refl]
theorem ordS_eq {s t} (h : ordS s t = 0) : s = t := by
  unfold ordS orL orL orL orL at h
  by_cases e1 : Lib.compareInt (cx s.2) (cx t.2) = 0
  · rw [if_pos e1] at h
    by_cases e2 : Lib.compareInt s.1 t.1 = 0
    · rw [if_pos e2] at h
      by_cases e3 : cmpR s.2 t.2 = 0
      · obtain ⟨a, b⟩ := s; obtain ⟨c, d⟩ := t
        have := ci_eq e2; have := cmpR_eq _ _ e3
        simp only at *; subst_vars; rfl
      · rw [if_neg e3] at h; exact absurd h e3
    · rw [if_neg e2] at h; exact absurd h e2
  · rw [if_neg e1] at h; exact absurd h e1
theorem ordS_lt {s t} : ordS s t < 0 ↔ cx s.2 < cx t.2 ∨ (cx s.2 = cx t.2 ∧ (s.1 < t.1 ∨ (s.1 = t.1 ∧ cmpR s.2 t.2 < 0))) := by
  unfold ordS orL orL orL orL
  have a1 := @ci_lt (cx s.2) (cx t.2)
  have a2 := @ci_lt s.1 t.1
  by_cases e1 : Lib.compareInt (cx s.2) (cx t.2) = 0
  · rw [if_pos e1]
    have := ci_eq e1
    by_cases e2 : Lib.compareInt s.1 t.1 = 0
    · rw [if_pos e2]
      have := ci_eq e2
      by_cases e3 : cmpR s.2 t.2 = 0
      · rw [if_pos e3, e3]; omega
      · rw [if_neg e3]; omega
    · rw [if_neg e2]
      have : s.1 ≠ t.1 := fun e => e2 (by rw [e, ci_refl])
      omega
  · rw [if_neg e1]
    have : cx s.2 ≠ cx t.2 := fun e => e1 (by rw [e, ci_refl])
    omega
theorem ordS_neg (s t) : ordS t s = - ordS s t := by
  unfold ordS orL orL orL orL
  rw [ci_neg (cx s.2) (cx t.2), ci_neg s.1 t.1, cmpR_neg s.2 t.2]
  by_cases e1 : Lib.compareInt (cx s.2) (cx t.2) = 0
  · rw [if_pos e1, if_pos (by omega)]
    by_cases e2 : Lib.compareInt s.1 t.1 = 0
    · rw [if_pos e2, if_pos (by omega)]
      by_cases e3 : cmpR s.2 t.2 = 0
      · rw [if_pos e3, if_pos (by omega)]; rfl
      · rw [if_neg e3, if_neg (by omega)]
    · rw [if_neg e2, if_neg (by omega)]
  · rw [if_neg e1, if_neg (by omega)]
theorem ordS_trans {s t u} (h : ordS s t < 0) (k : ordS t u < 0) : ordS s u < 0 := by
  rw [ordS_lt] at *
  have := cmpR_trans s.2 t.2 u.2
  rcases h with h | ⟨h1, h | ⟨h2, h⟩⟩ <;> rcases k with k | ⟨k1, k | ⟨k2, k⟩⟩
  all_goals first | omega | exact .inr ⟨by omega, .inr ⟨by omega, this h k⟩⟩

def ltS (s t : Int × List Int) : Bool := decide (ordS s t < 0)
theorem swoS : SWO (ltOf ordS) where
  irrefl x := by unfold ltOf; rw [ordS_refl]; rfl
  trans x y z h k := by
    unfold ltOf at *
    exact decide_eq_true (ordS_trans (of_decide_eq_true h) (of_decide_eq_true k))
  ntrans x y z h k := by
    unfold ltOf at *
    have h := of_decide_eq_false h
    have k := of_decide_eq_false k
    refine decide_eq_false fun hc => ?_
    have a1 := ordS_neg x y
    have a2 := ordS_neg y z
    by_cases e1 : ordS x y = 0
    · rw [ordS_eq e1] at hc; exact k hc
    · by_cases e2 : ordS y z = 0
      · rw [← ordS_eq e2] at hc; exact h hc
      · have := ordS_trans (s := z) (t := y) (u := x) (by omega) (by omega)
        have := ordS_neg x z
        omega
def stI (s : Nat × List Int) : Int × List Int := ((s.1 : Int), s.2)
theorem stI_inj {s t : Nat × List Int} (h : stI s = stI t) : s = t := by
  obtain ⟨a, b⟩ := s; obtain ⟨c, d⟩ := t
  unfold stI at h; simp at h; obtain ⟨h1, rfl⟩ := h; rw [show a = c by omega]
/-- not behind -/
def leS (s t : Nat × List Int) : Bool := !(ltOf ordS (stI t) (stI s))
def sortS (l : List (Nat × List Int)) : List (Nat × List Int) := l.mergeSort leS
theorem leS_trans (a b c : Nat × List Int) (h : leS a b = true) (k : leS b c = true) : leS a c = true := by
  unfold leS at *
  simp only [Bool.not_eq_true'] at *
  exact swoS.ntrans _ _ _ k h
theorem leS_total (a b : Nat × List Int) : (leS a b || leS b a) = true := by
  unfold leS ltOf
  have := ordS_neg (stI a) (stI b)
  by_cases h : ordS (stI a) (stI b) < 0
  · rw [decide_eq_false (p := ordS (stI b) (stI a) < 0) (by omega)]; rfl
  · rw [decide_eq_false h]; simp
theorem leS_anti {a b : Nat × List Int} (h : leS a b = true) (k : leS b a = true) : a = b := by
  unfold leS ltOf at *
  simp only [Bool.not_eq_true', decide_eq_false_iff_not] at *
  have := ordS_neg (stI a) (stI b)
  exact stI_inj (ordS_eq (by omega))
theorem sortS_perm (l) : (sortS l).Perm l := List.mergeSort_perm _ _
theorem sortS_sorted (l) : (sortS l).Pairwise (fun a b => leS a b = true) := List.pairwise_mergeSort leS_trans leS_total l
/-- what is sorted is what the sort gives -/
theorem sortS_eq {l m : List (Nat × List Int)} (hs : m.Pairwise fun a b => leS a b = true) (hp : m.Perm l) : m = sortS l :=
  List.Perm.eq_of_pairwise (le := fun a b => leS a b = true) (fun _ _ _ _ => leS_anti) hs (sortS_sorted l) (hp.trans (sortS_perm l).symm)
theorem sortS_filter (p : Nat × List Int → Bool) (l) : (sortS l).filter p = sortS (l.filter p) :=
  sortS_eq ((sortS_sorted l).filter p) ((sortS_perm l).filter p)

/-! ### the box -/
def boxL (m n N : Nat) : List (Nat × List Int) := (List.range N).flatMap fun i => (boxC m n).map fun cs => (i, cs)
theorem boxL_succ (m n i : Nat) : boxL m n (i + 1) = boxL m n i ++ (boxC m n).map fun cs => (i, cs) := by
  unfold boxL; rw [List.range_succ, List.flatMap_append]; simp
theorem boxL_mem {m n N : Nat} {s : Nat × List Int} (h : s ∈ boxL m n N) : s.1 < N ∧ s.2.length = n ∧ ∀ c, c ∈ s.2 → -(m : Int) ≤ c ∧ c ≤ m := by
  unfold boxL at h
  obtain ⟨i, hi, h⟩ := List.mem_flatMap.1 h
  obtain ⟨cs, hc, rfl⟩ := List.mem_map.1 h
  exact ⟨List.mem_range.1 hi, boxC_len m n cs hc, boxC_mem m n cs hc⟩
theorem boxL_size (m n N : Nat) : (boxL m n N).length = N * (2 * m + 1) ^ n := by
  induction N with
  | zero => simp [boxL]
  | succ N ih => rw [boxL_succ, List.length_append, ih, List.length_map, boxC_size, Nat.add_mul, Nat.one_mul]

def inB (m : Nat) (cs : List Int) : Bool := cs.all fun c => decide (-(m : Int) ≤ c ∧ c ≤ m)
theorem span_filter (m : Nat) : (spanC (m + 1)).filter (fun c => decide (-(m : Int) ≤ c ∧ c ≤ m)) = spanC m := by
  unfold spanC
  have e : 2 * (m + 1) + 1 = 1 + (2 * m + 1) + 1 := by omega
  rw [e, List.range_add, List.range_add]
  simp only [List.map_append, List.map_map, List.filter_append]
  have h0 : (List.map (fun (k : Nat) => (k : Int) - ((m + 1 : Nat) : Int)) (List.range 1)).filter (fun c => decide (-(m : Int) ≤ c ∧ c ≤ m)) = [] := by
    rw [List.filter_eq_nil_iff]; intro c hc; simp at hc; subst hc; simp; omega
  have h2 : ∀ f : Nat → Int, (∀ k, f k = (k : Int) - ((m + 1 : Nat) : Int) + (1 + (2 * m + 1) : Nat)) → (List.map f (List.range 1)).filter (fun c => decide (-(m : Int) ≤ c ∧ c ≤ m)) = [] := fun f hf => by
    rw [List.filter_eq_nil_iff]; intro c hc; simp at hc; subst hc; rw [hf 0]; simp; omega
  rw [h0, h2 _ (fun k => by simp only [Function.comp]; omega)]
  simp only [List.nil_append, List.append_nil]
  rw [List.filter_eq_self.2]
  · refine List.map_congr_left fun k _ => ?_
    simp only [Function.comp]; omega
  · intro c hc
    obtain ⟨k, hk, rfl⟩ := List.mem_map.1 hc
    have := List.mem_range.1 hk
    simp only [Function.comp]
    refine decide_eq_true ⟨by omega, by omega⟩
theorem boxC_filter (m : Nat) : ∀ n, (boxC (m + 1) n).filter (inB m) = boxC m n
  | 0 => rfl
  | n + 1 => by
    have ih := boxC_filter m n
    have e : ∀ T : List (List Int), (T.flatMap fun t => (spanC (m + 1)).map (· :: t)).filter (inB m) = (T.filter (inB m)).flatMap fun t => (spanC m).map (· :: t) := fun T => by
      induction T with
      | nil => rfl
      | cons t T iT =>
        rw [List.flatMap_cons, List.filter_append, iT, List.filter_map]
        have hc : (inB m ∘ fun x => x :: t) = fun c => (decide (-(m : Int) ≤ c ∧ c ≤ m)) && inB m t := by funext c; simp [inB]
        rw [hc]
        cases ht : inB m t with
        | true =>
          rw [List.filter_cons, ht]
          simp only [Bool.and_true, if_true, List.flatMap_cons]
          rw [span_filter]
        | false =>
          rw [List.filter_cons, ht]
          simp
    rw [boxC, e, ih, boxC]
theorem boxL_filter (m n N : Nat) : (boxL (m + 1) n N).filter (fun s => inB m s.2) = boxL m n N := by
  induction N with
  | zero => rfl
  | succ N ih =>
    rw [boxL_succ, boxL_succ, List.filter_append, ih, List.filter_map]
    congr 1
    have e : ((fun s : Nat × List Int => inB m s.2) ∘ fun cs => (N, cs)) = inB m := rfl
    rw [e, boxC_filter]
theorem boxC_nodup (m : Nat) : ∀ n, (boxC m n).Nodup
  | 0 => by simp [boxC]
  | n + 1 => by
    have ih := boxC_nodup m n
    unfold boxC
    rw [List.nodup_iff_pairwise_ne, List.pairwise_flatMap]
    refine ⟨fun t _ => ?_, (List.nodup_iff_pairwise_ne.1 ih).imp fun {a b} hab x hx y hy e => ?_⟩
    · rw [List.pairwise_map]
      have : (spanC m).Pairwise (· ≠ ·) := by
        unfold spanC
        rw [List.pairwise_map]
        exact List.nodup_range.imp fun {a b} h e => h (by omega)
      exact this.imp fun {a b} h e => h (by injection e)
    · obtain ⟨c, _, rfl⟩ := List.mem_map.1 hx
      obtain ⟨d, _, rfl⟩ := List.mem_map.1 hy
      injection e with _ e
      exact hab e
theorem boxL_nodup (m n N : Nat) : (boxL m n N).Nodup := by
  unfold boxL
  rw [List.nodup_iff_pairwise_ne, List.pairwise_flatMap]
  refine ⟨fun t _ => ?_, List.nodup_range.imp fun {a b} hab x hx y hy e => ?_⟩
  · rw [List.pairwise_map]
    exact (boxC_nodup m n).imp fun {a b} h e => h (by injection e)
  · obtain ⟨c, _, rfl⟩ := List.mem_map.1 hx
    obtain ⟨d, _, rfl⟩ := List.mem_map.1 hy
    injection e with e _
    exact hab e
end Go.Proofs.YtphjfalibnnohaaGreatDoor
