/- The order in which spelling.box counts: plain lists. -/
import Derived.Test.YtphjfalibnnohaaGreatDoorGrid
namespace Go.Proofs.YtphjfalibnnohaaGreatDoor

/-- the next counts, the first place fastest -/
def nextC (m : Int) : List Int → Option (List Int)
  | [] => none
  | c :: cs => if c = m then (nextC m cs).map (fun t => -m :: t) else some ((c + 1) :: cs)
/-- -m .. m -/
def spanC (m : Nat) : List Int := (List.range (2 * m + 1)).map fun (k : Nat) => (k : Int) - (m : Int)
def boxC (m : Nat) : Nat → List (List Int)
  | 0 => [[]]
  | n + 1 => (boxC m n).flatMap fun t => (spanC m).map (· :: t)
/-- each leads to the one behind it, the last to none -/
def IsRun (m : Int) : List (List Int) → Prop
  | [] => True
  | [x] => nextC m x = none
  | x :: y :: l => nextC m x = some y ∧ IsRun m (y :: l)

theorem isRun_tail {m : Int} {x : List Int} {l : List (List Int)} (h : IsRun m (x :: l)) : IsRun m l := by
  cases l with
  | nil => trivial
  | cons y l => exact h.2
theorem isRun_next {m : Int} {x : List Int} {l : List (List Int)} (h : IsRun m (x :: l)) : nextC m x = l.head? := by
  cases l with
  | nil => exact h
  | cons y l => exact h.1
theorem isRun_cons {m : Int} {x : List Int} {l : List (List Int)} (h1 : nextC m x = l.head?) (h2 : IsRun m l) : IsRun m (x :: l) := by
  cases l with
  | nil => exact h1
  | cons y l => exact ⟨h1, h2⟩

/-- the block of a tail: k + 1 steps up to m -/
theorem isRun_block {m : Nat} (t : List Int) (l : List (List Int)) (hl : IsRun m l) (hn : (nextC m t).map (fun u => -(m : Int) :: u) = l.head?) :
    ∀ (j : Nat) (a : Int), a + j = m → IsRun m (((List.range (j + 1)).map fun (k : Nat) => ((a + (k : Int)) :: t)) ++ l)
  | 0, a, h => by
    have e : (List.range (0 + 1)).map (fun (k : Nat) => (((m : Int) + (k : Int)) :: t)) ++ l = ((m : Int) :: t) :: l := by simp [List.range_succ]
    have ha : a = (m : Int) := by omega
    rw [ha, e]
    refine isRun_cons ?_ hl
    rw [nextC, if_pos rfl, hn]
  | j + 1, a, h => by
    rw [List.range_succ_eq_map, List.map_cons, List.map_map, List.cons_append]
    have ih := isRun_block t l hl hn j (a + 1) (by omega)
    have e : (List.range (j + 1)).map ((fun (k : Nat) => ((a + (k : Int)) :: t)) ∘ Nat.succ) = (List.range (j + 1)).map fun (k : Nat) => ((a + 1 + (k : Int)) :: t) := by
      refine List.map_congr_left fun k _ => ?_
      simp only [Function.comp, Nat.succ_eq_add_one]
      congr 1; omega
    rw [e]
    refine isRun_cons ?_ ih
    rw [nextC, if_neg (by simp; omega), List.range_succ_eq_map]
    simp

theorem span_head (m : Nat) : (spanC m).head? = some (-(m : Int)) := by
  unfold spanC; rw [List.range_succ_eq_map]; simp
theorem isRun_flat {m : Nat} : ∀ (T : List (List Int)), IsRun m T → IsRun m (T.flatMap fun t => (spanC m).map (· :: t)) ∧ (T.flatMap fun t => (spanC m).map (· :: t)).head? = T.head?.map (fun u => -(m : Int) :: u)
  | [], _ => ⟨trivial, rfl⟩
  | t :: T, h => by
    obtain ⟨i1, i2⟩ := isRun_flat T (isRun_tail h)
    constructor
    · rw [List.flatMap_cons]
      have := isRun_block (m := m) t _ i1 (by rw [i2, isRun_next h]) (2 * m) (-(m : Int)) (by omega)
      have e : (spanC m).map (· :: t) = (List.range (2 * m + 1)).map fun (k : Nat) => ((-(m : Int) + (k : Int)) :: t) := by
        unfold spanC; rw [List.map_map]
        refine List.map_congr_left fun k _ => ?_
        simp only [Function.comp]
        congr 1; omega
      rw [e]; exact this
    · rw [List.flatMap_cons, List.head?_append, List.head?_map, span_head]; rfl
theorem isRun_box (m : Nat) : ∀ n, IsRun m (boxC m n) ∧ (boxC m n).head? = some (List.replicate n (-(m : Int)))
  | 0 => ⟨rfl, rfl⟩
  | n + 1 => by
    obtain ⟨h1, h2⟩ := isRun_box m n
    obtain ⟨a, b⟩ := isRun_flat _ h1
    exact ⟨a, by rw [boxC, b, h2]; rfl⟩
theorem boxC_len (m : Nat) : ∀ n t, t ∈ boxC m n → t.length = n
  | 0, t, h => by simp [boxC] at h; subst h; rfl
  | n + 1, t, h => by
    unfold boxC at h
    obtain ⟨u, hu, ht⟩ := List.mem_flatMap.1 h
    obtain ⟨c, -, rfl⟩ := List.mem_map.1 ht
    simp [boxC_len m n u hu]
theorem boxC_size (m : Nat) : ∀ n, (boxC m n).length = (2 * m + 1) ^ n
  | 0 => rfl
  | n + 1 => by
    have h := boxC_size m n
    have e : ∀ T : List (List Int), (T.flatMap fun t => (spanC m).map (· :: t)).length = T.length * (2 * m + 1) := fun T => by
      induction T with
      | nil => simp
      | cons t T ih => rw [List.flatMap_cons, List.length_append, ih]; simp [spanC, Nat.succ_mul]; omega
    rw [boxC, e, h, Nat.pow_succ]
theorem boxC_mem (m : Nat) : ∀ n t, t ∈ boxC m n → ∀ c, c ∈ t → -(m : Int) ≤ c ∧ c ≤ m
  | 0, t, h => by simp [boxC] at h; subst h; simp
  | n + 1, t, h => by
    unfold boxC at h
    obtain ⟨u, hu, ht⟩ := List.mem_flatMap.1 h
    obtain ⟨c, hc, rfl⟩ := List.mem_map.1 ht
    intro d hd
    rcases List.mem_cons.1 hd with rfl | hd
    · unfold spanC at hc
      obtain ⟨k, hk, rfl⟩ := List.mem_map.1 hc
      have := List.mem_range.1 hk
      omega
    · exact boxC_mem m n u hu d hd
end Go.Proofs.YtphjfalibnnohaaGreatDoor
