/-
  Contracts and laws for the statements of the law 43 of the seat, QF.
-/
import Derived.Test.YtbpfkmpkadimeaaGreatDoorQA
import Derived.RangeFuncNested
import Derived.RangeFuncBound
import Derived.RangeFuncCalls
import Derived.RangeFuncLeaves
import Derived.Shelf.RegionOpen
import Derived.OwnWalkIn
import Derived.TacticsInMore
import Derived.LoopNIn
import Derived.LoopIn
import Derived.Shelf.SlSortCmp.Insertion
import Derived.Test.YtbpfkmpkadimeaaGreatDoorQC
import Derived.Shelf.SlicesE.Clone
import Derived.Sort.LoopGhostIn
import Derived.Sort.QuietIn

/- A range over a function whose iterator writes cells of its own (spelling.box): one law for the caller, over a contract in which the iterator's own blocks are a parameter. The proof follows the kit's law over 'SeqStopsK' (its book-keeping of the record), the body never leaves. -/
namespace Go.Proofs.YtbpfkmpkadimeaaGreatDoor
open Go.RowKit Go.Lib

theorem Fx.putObj (W : World) (l : Nat) (o : Obj) : Fx (· = l) W (W.putObj l o) :=
  ⟨rfl, rfl, rfl, by simp, fun k _ hk => World.putObj_heap_other (fun e => hk e)⟩

/-- what the caller's invariant bears: steps of the iterator in the blocks of its own, and new blocks -/
def Abide {α : Type} (J : (Nat → Prop) → List α → World → Prop) : Prop :=
  ∀ p p' s W W', J p s W → Fx p W W' → (∀ k, p' k → p k ∨ (W.heap.size ≤ k ∧ k < W'.heap.size)) → J p' s W'

def SeqX {α : Type} (F : Fence) (n : Nat) (P : Program) (g : Nat) (lb : Array Value) (encs : α → Array Value) (Fresh : Nat → (Nat → Prop) → List α → α → World → Prop) (S : List α → Prop) (w0 : World) (q : Nat → Prop) : Prop :=
  ∀ (l : Nat) (J : (Nat → Prop) → List α → World → Prop) (W : World), Fr w0 W → Abide J →
    (∀ p pre x W1, J p pre W1 → (∀ k, p k → W.heap.size ≤ k) → Fresh W.heap.size p pre x W1 → YieldAt F (n - 1) P l (encs x) W1 fun e W' =>
      e = .returned (.bool true) ∧ J p (pre ++ [x]) W' ∧ Fx (fun k => ¬ p k ∧ q k) W1 W') →
    J (fun _ => False) [] W →
    CallsIn F n P g (#[.func (.yield l) #[] #[]] ++ lb) W fun e W' => (∃ v, e = .returned v) ∧ ∃ p xs, S xs ∧ J p xs W'

/-- how the body of a round is left -/
def postX {α : Type} (D : Nat) (q : Nat → Prop) (I : (Nat → Prop) → List α → World → Prop) (p : Nat → Prop) (xs : List α) (W : World) : Exit → Act → World → Prop
  | .normal, _, W' => Fx (fun k => ¬ p k ∧ q k ∧ k ≠ D ∧ k ≠ D + 1) W W' ∧ I p xs W'
  | _, _, _ => False

theorem wpIn_rangeX {F : Fence} {n : Nat} {P : Program} {α : Type} {g : Operand} {ps : Array Tmp} {assign body : Code} {Q : Exit → Act → World → Prop} {a : Act} {w : World}
    (hro : F.round = none) (h1 : 1 ≤ n) {gf : Nat} {lb : Array Value} (hg : a.eval g = .func (.func gf) #[] lb) (hFg : F.fn gf) (eg : ∀ args w, (callFunc gf args).run P w = .ok (.enter gf args) w)
    {encs : α → Array Value} {Fresh : Nat → (Nat → Prop) → List α → α → World → Prop} {S : List α → Prop} {w0 : World} {q : Nat → Prop} (hseq : SeqX F (n - 1) P gf lb encs Fresh S w0 q) (hb0 : Fr w0 w) (hqD : q (w.heap.size + 1)) (hps : ∀ x, (encs x).size = ps.size)
    (I : (Nat → Prop) → List α → World → Prop)
    (hI : ∀ p p' s W W', I p s W → Fx (fun k => p k ∨ k = w.heap.size ∨ k = w.heap.size + 1) W W' → (∀ k, p' k → p k ∨ (W.heap.size ≤ k ∧ k < W'.heap.size)) → (∀ k, p' k → w.heap.size + 2 ≤ k) → I p' s W')
    (h0 : I (fun _ => False) [] w) (Ax : (Nat → Prop) → List α → α → Act → World → Prop) (hAx : ∀ p pre x a' W W', Ax p pre x a' W → Fx (· = w.heap.size + 1) W W' → Ax p pre x a' W')
    (hassign : ∀ (l : Nat) (p : Nat → Prop) (pre : List α) (x : α) (W : World) (K : Act → World → Prop), w.heap.size + 2 ≤ W.heap.size → (∀ k, p k → w.heap.size + 2 ≤ k ∧ k < W.heap.size) → Fresh (w.heap.size + 2) p pre x W →
      (∀ a' W', Fr W W' → Ax p pre x a' W' → K a' W') →
      assign.wpIn (F.inRound l) (n - 1 - 1) P (Exit.then K (fun _ _ _ => False)) { tmps := (ps.zip (encs x)).foldl (fun t (p, v) => t.setIfInBounds p v) a.tmps, defers := [] } W)
    (hbody : ∀ (l : Nat) (p : Nat → Prop) (pre : List α) (x : α) (a' : Act) (W : World), w.heap.size + 2 ≤ W.heap.size → (∀ k, p k → w.heap.size + 2 ≤ k ∧ k < W.heap.size) → I p pre W → Ax p pre x a' W →
      body.wpIn (F.inRound l) (n - 1 - 1) P (postX w.heap.size q I p (pre ++ [x]) W) a' W)
    (hdone : ∀ (p : Nat → Prop) (xs : List α) (W : World), S xs → I p xs W → W.heap[w.heap.size]? = some (.deferred (some [])) → Q .normal { a with defers := { target := .collected w.heap.size, args := #[] } :: a.defers } W) :
    (Code.rangeFunc g ps assign body).wpIn F n P Q a w := by
  refine wpIn_rangeFunc ?_
  intro fn hfn
  rw [hro]
  obtain ⟨rec, hrec⟩ : ∃ rec : LoopState → Option Code → Loop, rec = fun st pe => { state := st, pending := pe, fn, tmps := a.tmps, params := ps, assign, body, defers := w.heap.size } := ⟨_, rfl⟩
  obtain ⟨W1, hW1⟩ : ∃ W1, (w.alloc (.deferred (some []))).alloc (.loop (rec .ready none)) = W1 := ⟨_, rfl⟩
  have hL1 : W1.heap[w.heap.size + 1]? = some (.loop (rec .ready none)) := by
    rw [← hW1]; have := World.alloc_heap_new (w.alloc (.deferred (some []))) (.loop (rec .ready none)); rwa [World.size_alloc] at this
  have hK1 : W1.heap[w.heap.size]? = some (.deferred (some [])) := by
    rw [← hW1]; exact (Below.heap_alloc _ _ _ (by simp)).trans (World.alloc_heap_new w _)
  have hsz1 : W1.heap.size = w.heap.size + 2 := by rw [← hW1]; simp
  have hfr1 : Fr w W1 := by rw [← hW1]; exact ((Fr.refl w).alloc _).alloc _
  have hI1 : I (fun _ => False) [] W1 := hI _ _ _ _ _ h0 (Fx.of_fr hfr1) (fun k e => e.elim) (fun k e => e.elim)
  refine ⟨w.heap.size + 1, [{ target := .collected w.heap.size, args := #[] }], W1, { target := .fn (.func gf) lb, args := #[.func (.yield (w.heap.size + 1)) #[] #[]] }, W1, gf,
    #[.func (.yield (w.heap.size + 1)) #[] #[]] ++ lb, W1, ?_, ?_, ?_, ?_, fun _ => h1, ?_⟩
  · rw [← hW1, hrec]; exact run_enterLoop_outer _ _ _ _ _
  · simp only [resolve, hg]
    simp [go_sem]
  · intro f' hf'; simp [Target.leads] at hf'; subst hf'; exact hFg
  · simp [invoke, go_sem, eg]
  · refine (hseq (w.heap.size + 1)
      (fun p pre W => I p pre W ∧ W.heap[w.heap.size + 1]? = some (.loop (rec .ready none)) ∧ W.heap[w.heap.size]? = some (.deferred (some [])) ∧ ∀ k, p k → w.heap.size + 2 ≤ k ∧ k < W.heap.size)
      W1 (hb0.trans hfr1) ?_ ?_ ⟨hI1, hL1, hK1, fun k e => e.elim⟩).mono ?_
    · rintro p p' s A B ⟨hi, hl, hk, hp⟩ hfx hpp
      have hlt : w.heap.size + 1 < A.heap.size := (Array.getElem?_eq_some_iff.1 hl).1
      have hpp2 : ∀ k, p' k → w.heap.size + 2 ≤ k := fun k e => by
        rcases hpp k e with e | ⟨e1, e2⟩
        · have := hp k e; omega
        · omega
      refine ⟨hI _ _ _ _ _ hi (hfx.mono fun k e => .inl e) hpp hpp2, (hfx.block _ hlt (fun e => by have := hp _ e; omega)).trans hl, (hfx.block _ (by omega) (fun e => by have := hp _ e; omega)).trans hk, fun k e => ?_⟩
      have hs := hfx.size
      rcases hpp k e with e | ⟨e1, e2⟩
      · have := hp k e; omega
      · omega
    · rintro p pre x W ⟨hi, hl, hk, hp⟩ hpn hfresh
      have hlt : w.heap.size + 1 < W.heap.size := (Array.getElem?_eq_some_iff.1 hl).1
      rw [hsz1] at hfresh
      have hy := run_yield (P := P) (args := encs x) hl (by rw [hrec]; exact hps x)
      rw [hrec] at hy
      refine ⟨fn, _, assign, body, hy, roundIn_of_wpIn hfn (hassign _ p pre x W _ (by omega) hp hfresh ?_)⟩
      intro a' W' hfr' hax
      have hl' : W'.heap[w.heap.size + 1]? = some (.loop (rec .ready none)) := (hfr'.block _ hlt).trans hl
      have hk' : W'.heap[w.heap.size]? = some (.deferred (some [])) := (hfr'.block _ (by omega)).trans hk
      have hlt' : w.heap.size + 1 < W'.heap.size := Nat.lt_of_lt_of_le hlt hfr'.size
      refine ⟨_, run_beginRound hl' (by rw [hrec]), ?_⟩
      generalize hW2 : World.putObj W' (w.heap.size + 1) _ = W2
      have hl2 : W2.heap[w.heap.size + 1]? = some (.loop { rec .ready none with state := .busy }) := by rw [← hW2]; exact World.putObj_heap_same hlt'
      have hk2 : W2.heap[w.heap.size]? = some (.deferred (some [])) := by rw [← hW2]; exact (World.putObj_heap_other (by omega)).trans hk'
      have hf2 : Fx (· = w.heap.size + 1) W' W2 := by rw [← hW2]; exact Fx.putObj _ _ _
      clear hW2
      have hi2 := hI p p _ _ _ (hI p p _ _ _ hi (Fx.of_fr hfr') (fun k e => .inl e) (fun k e => (hp k e).1)) (hf2.mono fun k e => .inr (.inr e)) (fun k e => .inl e) (fun k e => (hp k e).1)
      have hs2 := hf2.size
      have hs1 := hfr'.size
      refine wpIn_mono (hbody _ p pre x a' _ (by omega) (fun k e => by have := hp k e; omega) hi2 (hAx _ _ _ _ _ _ hax hf2)) ?_
      rintro e a3 W3 hq9
      cases e with
      | normal =>
        obtain ⟨hf3, hi3⟩ := hq9
        have hl3 : W3.heap[w.heap.size + 1]? = some (.loop { rec .ready none with state := .busy }) := (hf3.block _ (by omega) (fun e => e.2.2.2 rfl)).trans hl2
        have hk3 : W3.heap[w.heap.size]? = some (.deferred (some [])) := (hf3.block _ (by omega) (fun e => e.2.2.1 rfl)).trans hk2
        have hlt3 : w.heap.size + 1 < W3.heap.size := (Array.getElem?_eq_some_iff.1 hl3).1
        have hr := run_endRound (P := P) none hl3
        have hs3 := hf3.size
        have hz0 := hb0.size
        generalize hW4 : World.putObj W3 (w.heap.size + 1) _ = W4 at hr
        have hf4 : Fx (· = w.heap.size + 1) W3 W4 := by rw [← hW4]; exact Fx.putObj _ _ _
        have hl4 : W4.heap[w.heap.size + 1]? = some (.loop (rec .ready none)) := by rw [← hW4, hrec]; exact World.putObj_heap_same hlt3
        have hk4 : W4.heap[w.heap.size]? = some (.deferred (some [])) := by rw [← hW4]; exact (World.putObj_heap_other (by omega)).trans hk3
        clear hW4
        have hs4 := hf4.size
        refine ⟨_, _, hr, rfl, ⟨hI p p _ _ _ hi3 (hf4.mono fun k e => .inr (.inr e)) (fun k e => .inl e) (fun k e => (hp k e).1), hl4, hk4, fun k e => by have := hp k e; omega⟩, ?_⟩
        · refine (((Fx.of_fr hfr').trans (hf2.mono (fun k e => ?_))).trans (hf3.mono (fun k e => ?_))).trans ?_
          · have e : k = w.heap.size + 1 := e
            exact ⟨fun h => by have := hp k h; omega, by rw [e]; exact hqD⟩
          · exact ⟨e.1, e.2.1⟩
          · refine hf4.mono (fun k e => ?_)
            have e : k = w.heap.size + 1 := e
            exact ⟨fun h => by have := hp k h; omega, by rw [e]; exact hqD⟩
      | ret => exact hq9.elim
      | exit id => exact hq9.elim
      | goto t => exact hq9.elim
      | panic ch => exact hq9.elim
      | outgrown => exact hq9.elim
    · rintro e W2 ⟨⟨v, rfl⟩, p, xs, hS, hi, hl, hk, hp⟩
      refine ⟨none, _, by have := run_endLoop (P := P) hl (by rw [hrec]; simp); rw [hrec] at this; exact this, hdone p xs _ hS (hI p p _ _ _ hi ((Fx.putObj W2 (w.heap.size + 1) _).mono fun k e => .inr (.inr e)) (fun k e => .inl e) (fun k e => (hp k e).1)) ((World.putObj_heap_other (by omega)).trans hk)⟩
end Go.Proofs.YtbpfkmpkadimeaaGreatDoor

/- The order in which spelling.box counts: plain lists. -/
namespace Go.Proofs.YtbpfkmpkadimeaaGreatDoor

/-- the next counts, the first place fastest -/
def nextC (m : Int) : List Int → Option (List Int)
  | [] => none
  | c :: cs => if c = m then (nextC m cs).map (fun t => -m :: t) else some ((c + 1) :: cs)
/-- -m .. m -/
def spanC (m : Nat) : List Int := (List.range (2 * m + 1)).map fun (k : Nat) => (k : Int) - (m : Int)
def boxC (m : Nat) : Nat → List (List Int)
  | 0 => [[]]
  | n + 1 => (boxC m n).flatMap fun t => (spanC m).map (· :: t)
/-- each leads to the one behind it, the last to none -/
def IsRun (m : Int) : List (List Int) → Prop
  | [] => True
  | [x] => nextC m x = none
  | x :: y :: l => nextC m x = some y ∧ IsRun m (y :: l)

theorem isRun_tail {m : Int} {x : List Int} {l : List (List Int)} (h : IsRun m (x :: l)) : IsRun m l := by
  cases l with
  | nil => trivial
  | cons y l => exact h.2
theorem isRun_next {m : Int} {x : List Int} {l : List (List Int)} (h : IsRun m (x :: l)) : nextC m x = l.head? := by
  cases l with
  | nil => exact h
  | cons y l => exact h.1
theorem isRun_cons {m : Int} {x : List Int} {l : List (List Int)} (h1 : nextC m x = l.head?) (h2 : IsRun m l) : IsRun m (x :: l) := by
  cases l with
  | nil => exact h1
  | cons y l => exact ⟨h1, h2⟩

/-- the block of a tail: k + 1 steps up to m -/
theorem isRun_block {m : Nat} (t : List Int) (l : List (List Int)) (hl : IsRun m l) (hn : (nextC m t).map (fun u => -(m : Int) :: u) = l.head?) :
    ∀ (j : Nat) (a : Int), a + j = m → IsRun m (((List.range (j + 1)).map fun (k : Nat) => ((a + (k : Int)) :: t)) ++ l)
  | 0, a, h => by
    have e : (List.range (0 + 1)).map (fun (k : Nat) => (((m : Int) + (k : Int)) :: t)) ++ l = ((m : Int) :: t) :: l := by simp [List.range_succ]
    have ha : a = (m : Int) := by omega
    rw [ha, e]
    refine isRun_cons ?_ hl
    rw [nextC, if_pos rfl, hn]
  | j + 1, a, h => by
    rw [List.range_succ_eq_map, List.map_cons, List.map_map, List.cons_append]
    have ih := isRun_block t l hl hn j (a + 1) (by omega)
    have e : (List.range (j + 1)).map ((fun (k : Nat) => ((a + (k : Int)) :: t)) ∘ Nat.succ) = (List.range (j + 1)).map fun (k : Nat) => ((a + 1 + (k : Int)) :: t) := by
      refine List.map_congr_left fun k _ => ?_
      simp only [Function.comp, Nat.succ_eq_add_one]
      congr 1; omega
    rw [e]
    refine isRun_cons ?_ ih
    rw [nextC, if_neg (by simp; omega), List.range_succ_eq_map]
    simp

theorem span_head (m : Nat) : (spanC m).head? = some (-(m : Int)) := by
  unfold spanC; rw [List.range_succ_eq_map]; simp
theorem isRun_flat {m : Nat} : ∀ (T : List (List Int)), IsRun m T → IsRun m (T.flatMap fun t => (spanC m).map (· :: t)) ∧ (T.flatMap fun t => (spanC m).map (· :: t)).head? = T.head?.map (fun u => -(m : Int) :: u)
  | [], _ => ⟨trivial, rfl⟩
  | t :: T, h => by
    obtain ⟨i1, i2⟩ := isRun_flat T (isRun_tail h)
    constructor
    · rw [List.flatMap_cons]
      have := isRun_block (m := m) t _ i1 (by rw [i2, isRun_next h]) (2 * m) (-(m : Int)) (by omega)
      have e : (spanC m).map (· :: t) = (List.range (2 * m + 1)).map fun (k : Nat) => ((-(m : Int) + (k : Int)) :: t) := by
        unfold spanC; rw [List.map_map]
        refine List.map_congr_left fun k _ => ?_
        simp only [Function.comp]
        congr 1; omega
      rw [e]; exact this
    · rw [List.flatMap_cons, List.head?_append, List.head?_map, span_head]; rfl
theorem isRun_box (m : Nat) : ∀ n, IsRun m (boxC m n) ∧ (boxC m n).head? = some (List.replicate n (-(m : Int)))
  | 0 => ⟨rfl, rfl⟩
  | n + 1 => by
    obtain ⟨h1, h2⟩ := isRun_box m n
    obtain ⟨a, b⟩ := isRun_flat _ h1
    exact ⟨a, by rw [boxC, b, h2]; rfl⟩
theorem boxC_len (m : Nat) : ∀ n t, t ∈ boxC m n → t.length = n
  | 0, t, h => by simp [boxC] at h; subst h; rfl
  | n + 1, t, h => by
    unfold boxC at h
    obtain ⟨u, hu, ht⟩ := List.mem_flatMap.1 h
    obtain ⟨c, -, rfl⟩ := List.mem_map.1 ht
    simp [boxC_len m n u hu]
theorem boxC_size (m : Nat) : ∀ n, (boxC m n).length = (2 * m + 1) ^ n
  | 0 => rfl
  | n + 1 => by
    have h := boxC_size m n
    have e : ∀ T : List (List Int), (T.flatMap fun t => (spanC m).map (· :: t)).length = T.length * (2 * m + 1) := fun T => by
      induction T with
      | nil => simp
      | cons t T ih => rw [List.flatMap_cons, List.length_append, ih]; simp [spanC, Nat.succ_mul]; omega
    rw [boxC, e, h, Nat.pow_succ]
theorem boxC_mem (m : Nat) : ∀ n t, t ∈ boxC m n → ∀ c, c ∈ t → -(m : Int) ≤ c ∧ c ≤ m
  | 0, t, h => by simp [boxC] at h; subst h; simp
  | n + 1, t, h => by
    unfold boxC at h
    obtain ⟨u, hu, ht⟩ := List.mem_flatMap.1 h
    obtain ⟨c, hc, rfl⟩ := List.mem_map.1 ht
    intro d hd
    rcases List.mem_cons.1 hd with rfl | hd
    · unfold spanC at hc
      obtain ⟨k, hk, rfl⟩ := List.mem_map.1 hc
      have := List.mem_range.1 hk
      omega
    · exact boxC_mem m n u hu d hd
end Go.Proofs.YtbpfkmpkadimeaaGreatDoor

/- The order of spellings, in plain lists; sorting; filtering. -/
namespace Go.Proofs.YtbpfkmpkadimeaaGreatDoor
open Go.Sort

def cx : List Int → Int
  | [] => 0
  | x :: l => (x.natAbs : Int) + cx l
def cmpR : List Int → List Int → Int
  | [], [] => 0
  | [], _ :: _ => -1
  | _ :: _, [] => 1
  | x :: xs, y :: ys => if Lib.compareInt x y = 0 then cmpR xs ys else Lib.compareInt x y
def orL : List Int → Int
  | [] => 0
  | x :: l => if x = 0 then orL l else x
/-- how spellings are ordered -/
def ordS (s t : Int × List Int) : Int := orL [Lib.compareInt (cx s.2) (cx t.2), Lib.compareInt s.1 t.1, cmpR s.2 t.2]

theorem ci_refl (x : Int) : Lib.compareInt x x = 0 := by unfold Lib.compareInt; simp
theorem ci_eq {x y : Int} (h : Lib.compareInt x y = 0) : x = y := by
  unfold Lib.compareInt at h; split at h
  · omega
  · split at h
    · omega
    · omega
theorem ci_neg (x y : Int) : Lib.compareInt y x = - Lib.compareInt x y := by
  unfold Lib.compareInt; split <;> split <;> (first | omega | (split <;> omega) | skip)
theorem ci_lt {x y : Int} : Lib.compareInt x y < 0 ↔ x < y := by
  unfold Lib.compareInt; split
  · omega
  · split <;> omega

theorem cmpR_refl : ∀ l, cmpR l l = 0
  | [] => rfl
  | x :: l => by rw [cmpR, ci_refl, if_pos rfl, cmpR_refl l]
theorem cmpR_eq : ∀ l m, cmpR l m = 0 → l = m
  | [], [], _ => rfl
  | [], _ :: _, h => by simp [cmpR] at h
  | _ :: _, [], h => by simp [cmpR] at h
  | x :: l, y :: m, h => by
    rw [cmpR] at h
    by_cases e : Lib.compareInt x y = 0
    · rw [if_pos e] at h; rw [ci_eq e, cmpR_eq l m h]
    · rw [if_neg e] at h; exact absurd h e
theorem cmpR_neg : ∀ l m, cmpR m l = - cmpR l m
  | [], [] => rfl
  | [], _ :: _ => rfl
  | _ :: _, [] => rfl
  | x :: l, y :: m => by
    rw [cmpR, cmpR, ci_neg x y, cmpR_neg l m]
    by_cases e : Lib.compareInt x y = 0
    · rw [if_pos e, if_pos (by omega)]
    · rw [if_neg e, if_neg (by omega)]
theorem cmpR_trans : ∀ l m n, cmpR l m < 0 → cmpR m n < 0 → cmpR l n < 0
  | [], [], _, h, _ => by simp [cmpR] at h
  | [], _ :: _, [], _, h => by simp [cmpR] at h
  | [], _ :: _, _ :: _, _, _ => by simp [cmpR]
  | _ :: _, [], _, h, _ => by simp [cmpR] at h
  | _ :: _, _ :: _, [], _, h => by simp [cmpR] at h
  | x :: l, y :: m, z :: n, h, k => by
    rw [cmpR] at h k ⊢
    have a1 := @ci_lt x y
    have a2 := @ci_lt y z
    have a3 := @ci_lt x z
    by_cases e1 : Lib.compareInt x y = 0
    · have e1' := ci_eq e1
      subst e1'
      rw [if_pos e1] at h
      by_cases e2 : Lib.compareInt x z = 0
      · rw [if_pos e2] at k ⊢; exact cmpR_trans l m n h k
      · rw [if_neg e2] at k ⊢; exact k
    · rw [if_neg e1] at h
      by_cases e2 : Lib.compareInt y z = 0
      · have e2' := ci_eq e2
        subst e2'
        rw [if_neg e1]; exact h
      · rw [if_neg e2] at k
        have b : x < z := by have := a1.1 h; have := a2.1 k; omega
        rw [if_neg (fun e => by rw [ci_eq e] at b; omega)]
        exact a3.2 b

theorem ordS_refl (s) : ordS s s = 0 := by simp [ordS, orL, ci_refl, cmpR_refl]
theorem ordS_eq {s t} (h : ordS s t = 0) : s = t := by
  unfold ordS orL orL orL orL at h
  by_cases e1 : Lib.compareInt (cx s.2) (cx t.2) = 0
  · rw [if_pos e1] at h
    by_cases e2 : Lib.compareInt s.1 t.1 = 0
    · rw [if_pos e2] at h
      by_cases e3 : cmpR s.2 t.2 = 0
      · obtain ⟨a, b⟩ := s; obtain ⟨c, d⟩ := t
        have := ci_eq e2; have := cmpR_eq _ _ e3
        simp only at *; subst_vars; rfl
      · rw [if_neg e3] at h; exact absurd h e3
    · rw [if_neg e2] at h; exact absurd h e2
  · rw [if_neg e1] at h; exact absurd h e1
theorem ordS_lt {s t} : ordS s t < 0 ↔ cx s.2 < cx t.2 ∨ (cx s.2 = cx t.2 ∧ (s.1 < t.1 ∨ (s.1 = t.1 ∧ cmpR s.2 t.2 < 0))) := by
  unfold ordS orL orL orL orL
  have a1 := @ci_lt (cx s.2) (cx t.2)
  have a2 := @ci_lt s.1 t.1
  by_cases e1 : Lib.compareInt (cx s.2) (cx t.2) = 0
  · rw [if_pos e1]
    have := ci_eq e1
    by_cases e2 : Lib.compareInt s.1 t.1 = 0
    · rw [if_pos e2]
      have := ci_eq e2
      by_cases e3 : cmpR s.2 t.2 = 0
      · rw [if_pos e3, e3]; omega
      · rw [if_neg e3]; omega
    · rw [if_neg e2]
      have : s.1 ≠ t.1 := fun e => e2 (by rw [e, ci_refl])
      omega
  · rw [if_neg e1]
    have : cx s.2 ≠ cx t.2 := fun e => e1 (by rw [e, ci_refl])
    omega
theorem ordS_neg (s t) : ordS t s = - ordS s t := by
  unfold ordS orL orL orL orL
  rw [ci_neg (cx s.2) (cx t.2), ci_neg s.1 t.1, cmpR_neg s.2 t.2]
  by_cases e1 : Lib.compareInt (cx s.2) (cx t.2) = 0
  · rw [if_pos e1, if_pos (by omega)]
    by_cases e2 : Lib.compareInt s.1 t.1 = 0
    · rw [if_pos e2, if_pos (by omega)]
      by_cases e3 : cmpR s.2 t.2 = 0
      · rw [if_pos e3, if_pos (by omega)]; rfl
      · rw [if_neg e3, if_neg (by omega)]
    · rw [if_neg e2, if_neg (by omega)]
  · rw [if_neg e1, if_neg (by omega)]
theorem ordS_trans {s t u} (h : ordS s t < 0) (k : ordS t u < 0) : ordS s u < 0 := by
  rw [ordS_lt] at *
  have := cmpR_trans s.2 t.2 u.2
  rcases h with h | ⟨h1, h | ⟨h2, h⟩⟩ <;> rcases k with k | ⟨k1, k | ⟨k2, k⟩⟩
  all_goals first | omega | exact .inr ⟨by omega, .inr ⟨by omega, this h k⟩⟩

def ltS (s t : Int × List Int) : Bool := decide (ordS s t < 0)
theorem swoS : SWO (ltOf ordS) where
  irrefl x := by unfold ltOf; rw [ordS_refl]; rfl
  trans x y z h k := by
    unfold ltOf at *
    exact decide_eq_true (ordS_trans (of_decide_eq_true h) (of_decide_eq_true k))
  ntrans x y z h k := by
    unfold ltOf at *
    have h := of_decide_eq_false h
    have k := of_decide_eq_false k
    refine decide_eq_false fun hc => ?_
    have a1 := ordS_neg x y
    have a2 := ordS_neg y z
    by_cases e1 : ordS x y = 0
    · rw [ordS_eq e1] at hc; exact k hc
    · by_cases e2 : ordS y z = 0
      · rw [← ordS_eq e2] at hc; exact h hc
      · have := ordS_trans (s := z) (t := y) (u := x) (by omega) (by omega)
        have := ordS_neg x z
        omega
def stI (s : Nat × List Int) : Int × List Int := ((s.1 : Int), s.2)
theorem stI_inj {s t : Nat × List Int} (h : stI s = stI t) : s = t := by
  obtain ⟨a, b⟩ := s; obtain ⟨c, d⟩ := t
  unfold stI at h; simp at h; obtain ⟨h1, rfl⟩ := h; rw [show a = c by omega]
/-- not behind -/
def leS (s t : Nat × List Int) : Bool := !(ltOf ordS (stI t) (stI s))
def sortS (l : List (Nat × List Int)) : List (Nat × List Int) := l.mergeSort leS
theorem leS_trans (a b c : Nat × List Int) (h : leS a b = true) (k : leS b c = true) : leS a c = true := by
  unfold leS at *
  simp only [Bool.not_eq_true'] at *
  exact swoS.ntrans _ _ _ k h
theorem leS_total (a b : Nat × List Int) : (leS a b || leS b a) = true := by
  unfold leS ltOf
  have := ordS_neg (stI a) (stI b)
  by_cases h : ordS (stI a) (stI b) < 0
  · rw [decide_eq_false (p := ordS (stI b) (stI a) < 0) (by omega)]; rfl
  · rw [decide_eq_false h]; simp
theorem leS_anti {a b : Nat × List Int} (h : leS a b = true) (k : leS b a = true) : a = b := by
  unfold leS ltOf at *
  simp only [Bool.not_eq_true', decide_eq_false_iff_not] at *
  have := ordS_neg (stI a) (stI b)
  exact stI_inj (ordS_eq (by omega))
theorem sortS_perm (l) : (sortS l).Perm l := List.mergeSort_perm _ _
theorem sortS_sorted (l) : (sortS l).Pairwise (fun a b => leS a b = true) := List.pairwise_mergeSort leS_trans leS_total l
/-- what is sorted is what the sort gives -/
theorem sortS_eq {l m : List (Nat × List Int)} (hs : m.Pairwise fun a b => leS a b = true) (hp : m.Perm l) : m = sortS l :=
  List.Perm.eq_of_pairwise (le := fun a b => leS a b = true) (fun _ _ _ _ => leS_anti) hs (sortS_sorted l) (hp.trans (sortS_perm l).symm)
theorem sortS_filter (p : Nat × List Int → Bool) (l) : (sortS l).filter p = sortS (l.filter p) :=
  sortS_eq ((sortS_sorted l).filter p) ((sortS_perm l).filter p)

/-! ### the box -/
def boxL (m n N : Nat) : List (Nat × List Int) := (List.range N).flatMap fun i => (boxC m n).map fun cs => (i, cs)
theorem boxL_succ (m n i : Nat) : boxL m n (i + 1) = boxL m n i ++ (boxC m n).map fun cs => (i, cs) := by
  unfold boxL; rw [List.range_succ, List.flatMap_append]; simp
theorem boxL_mem {m n N : Nat} {s : Nat × List Int} (h : s ∈ boxL m n N) : s.1 < N ∧ s.2.length = n ∧ ∀ c, c ∈ s.2 → -(m : Int) ≤ c ∧ c ≤ m := by
  unfold boxL at h
  obtain ⟨i, hi, h⟩ := List.mem_flatMap.1 h
  obtain ⟨cs, hc, rfl⟩ := List.mem_map.1 h
  exact ⟨List.mem_range.1 hi, boxC_len m n cs hc, boxC_mem m n cs hc⟩
theorem boxL_size (m n N : Nat) : (boxL m n N).length = N * (2 * m + 1) ^ n := by
  induction N with
  | zero => simp [boxL]
  | succ N ih => rw [boxL_succ, List.length_append, ih, List.length_map, boxC_size, Nat.add_mul, Nat.one_mul]

def inB (m : Nat) (cs : List Int) : Bool := cs.all fun c => decide (-(m : Int) ≤ c ∧ c ≤ m)
theorem span_filter (m : Nat) : (spanC (m + 1)).filter (fun c => decide (-(m : Int) ≤ c ∧ c ≤ m)) = spanC m := by
  unfold spanC
  have e : 2 * (m + 1) + 1 = 1 + (2 * m + 1) + 1 := by omega
  rw [e, List.range_add, List.range_add]
  simp only [List.map_append, List.map_map, List.filter_append]
  have h0 : (List.map (fun (k : Nat) => (k : Int) - ((m + 1 : Nat) : Int)) (List.range 1)).filter (fun c => decide (-(m : Int) ≤ c ∧ c ≤ m)) = [] := by
    rw [List.filter_eq_nil_iff]; intro c hc; simp at hc; subst hc; simp; omega
  have h2 : ∀ f : Nat → Int, (∀ k, f k = (k : Int) - ((m + 1 : Nat) : Int) + (1 + (2 * m + 1) : Nat)) → (List.map f (List.range 1)).filter (fun c => decide (-(m : Int) ≤ c ∧ c ≤ m)) = [] := fun f hf => by
    rw [List.filter_eq_nil_iff]; intro c hc; simp at hc; subst hc; rw [hf 0]; simp; omega
  rw [h0, h2 _ (fun k => by simp only [Function.comp]; omega)]
  simp only [List.nil_append, List.append_nil]
  rw [List.filter_eq_self.2]
  · refine List.map_congr_left fun k _ => ?_
    simp only [Function.comp]; omega
  · intro c hc
    obtain ⟨k, hk, rfl⟩ := List.mem_map.1 hc
    have := List.mem_range.1 hk
    simp only [Function.comp]
    refine decide_eq_true ⟨by omega, by omega⟩
theorem boxC_filter (m : Nat) : ∀ n, (boxC (m + 1) n).filter (inB m) = boxC m n
  | 0 => rfl
  | n + 1 => by
    have ih := boxC_filter m n
    have e : ∀ T : List (List Int), (T.flatMap fun t => (spanC (m + 1)).map (· :: t)).filter (inB m) = (T.filter (inB m)).flatMap fun t => (spanC m).map (· :: t) := fun T => by
      induction T with
      | nil => rfl
      | cons t T iT =>
        rw [List.flatMap_cons, List.filter_append, iT, List.filter_map]
        have hc : (inB m ∘ fun x => x :: t) = fun c => (decide (-(m : Int) ≤ c ∧ c ≤ m)) && inB m t := by funext c; simp [inB]
        rw [hc]
        cases ht : inB m t with
        | true =>
          rw [List.filter_cons, ht]
          simp only [Bool.and_true, if_true, List.flatMap_cons]
          rw [span_filter]
        | false =>
          rw [List.filter_cons, ht]
          simp
    rw [boxC, e, ih, boxC]
theorem boxL_filter (m n N : Nat) : (boxL (m + 1) n N).filter (fun s => inB m s.2) = boxL m n N := by
  induction N with
  | zero => rfl
  | succ N ih =>
    rw [boxL_succ, boxL_succ, List.filter_append, ih, List.filter_map]
    congr 1
    have e : ((fun s : Nat × List Int => inB m s.2) ∘ fun cs => (N, cs)) = inB m := rfl
    rw [e, boxC_filter]
theorem boxC_nodup (m : Nat) : ∀ n, (boxC m n).Nodup
  | 0 => by simp [boxC]
  | n + 1 => by
    have ih := boxC_nodup m n
    unfold boxC
    rw [List.nodup_iff_pairwise_ne, List.pairwise_flatMap]
    refine ⟨fun t _ => ?_, (List.nodup_iff_pairwise_ne.1 ih).imp fun {a b} hab x hx y hy e => ?_⟩
    · rw [List.pairwise_map]
      have : (spanC m).Pairwise (· ≠ ·) := by
        unfold spanC
        rw [List.pairwise_map]
        exact List.nodup_range.imp fun {a b} h e => h (by omega)
      exact this.imp fun {a b} h e => h (by injection e)
    · obtain ⟨c, _, rfl⟩ := List.mem_map.1 hx
      obtain ⟨d, _, rfl⟩ := List.mem_map.1 hy
      injection e with _ e
      exact hab e
theorem boxL_nodup (m n N : Nat) : (boxL m n N).Nodup := by
  unfold boxL
  rw [List.nodup_iff_pairwise_ne, List.pairwise_flatMap]
  refine ⟨fun t _ => ?_, List.nodup_range.imp fun {a b} hab x hx y hy e => ?_⟩
  · rw [List.pairwise_map]
    exact (boxC_nodup m n).imp fun {a b} h e => h (by injection e)
  · obtain ⟨c, _, rfl⟩ := List.mem_map.1 hx
    obtain ⟨d, _, rfl⟩ := List.mem_map.1 hy
    injection e with e _
    exact hab e
end Go.Proofs.YtbpfkmpkadimeaaGreatDoor

/- slices.Clone at a row. -/
namespace Go.Proofs.YtbpfkmpkadimeaaGreatDoor
open Go.RowKit Go.Lib Go.Shelf
def layClone_row_ren : Go.Shelf.Ren := ⟨fun | 41 => 146 | n => n, fun | 22 => 44 | 23 => 3 | 4 => 4 | n => n, fun | n => n⟩
theorem layClone_row : Go.Proofs.SlLaysE0.n41 Tryz.prog layClone_row_ren := {
  mixed := by kernel_rfl
  f41 := ⟨Tryz.f146.name, by decide, Tryz.func146.trans (congrArg some (by kernel_rfl))⟩
  t4 := Tryz.underlying4
  a4 := Tryz.isAgg4
  z4 := Tryz.sizeOf4
  v4 := Tryz.zeroValue4
  t22 := Tryz.underlying44
  a22 := Tryz.isAgg44
  z22 := Tryz.sizeOf44
  v22 := Tryz.zeroValue44 }
def layClone_ints_ren : Go.Shelf.Ren := ⟨fun | 41 => 133 | n => n, fun | 22 => 43 | 23 => 3 | 4 => 4 | n => n, fun | n => n⟩
theorem layClone_ints : Go.Proofs.SlLaysE0.n41 Tryz.prog layClone_ints_ren := {
  mixed := by kernel_rfl
  f41 := ⟨Tryz.f133.name, by decide, Tryz.func133.trans (congrArg some (by kernel_rfl))⟩
  t4 := Tryz.underlying4
  a4 := Tryz.isAgg4
  z4 := Tryz.sizeOf4
  v4 := Tryz.zeroValue4
  t22 := Tryz.underlying43
  a22 := Tryz.isAgg43
  z22 := Tryz.sizeOf43
  v22 := Tryz.zeroValue43 }

def RowRetN (w : World) (xs : List Int) (e : Ending) (w' : World) : Prop := ∃ g c, e = .returned (.slice (some ⟨g, 0, none⟩) xs.length c) ∧ Fr w w' ∧ w'.ownsRow w.heap.size 3 1 (.slice (some ⟨g, 0, none⟩) xs.length c) xs.length (xs.map iv)

set_option maxRecDepth 100000 in
theorem Clone_row (b o c : Nat) (xs : List Int) (w : World) (hl : xs.length ≤ 1000000) (hc : ∀ (j : Nat) (x : Int), xs[j]? = some x → w.cell? ⟨b, o + j, none⟩ = some (iv x)) :
    Calls Tryz.prog 146 #[.slice (some ⟨b, o, none⟩) xs.length c] w (RowRetN w xs) := by
  obtain ⟨i0, hi, hz0, hz1, hz2⟩ := info_parts infoInt
  refine (AnyE.slices_Clone layClone_row i0 _ 1 8 hi hz0 hz1 hz2 rfl (by decide) Tryz.sizeOf3 b o xs.length c (xs.map iv) w (by simp) (by unfold maxLen; omega) (by omega) (fun j u h => ?_) (fun u h => ?_)).mono ?_
  · rw [List.getElem?_map] at h
    cases hx : xs[j]? with
    | none => rw [hx] at h; simp at h
    | some x => rw [hx] at h; injection h with h; rw [← h]; exact hc j x hx
  · obtain ⟨x, -, rfl⟩ := List.mem_map.1 h; rfl
  · rintro e w' ⟨v', rfl, hown, hne, hb⟩
    have h2 := hown.2
    rcases h2 with ⟨h0, -⟩ | ⟨g, cap, _, hv, _⟩
    · exact absurd h0 hne
    · subst hv
      exact ⟨g, cap, rfl, hb, hown⟩
set_option maxRecDepth 100000 in
theorem Clone_ints (b o c : Nat) (xs : List Int) (w : World) (hl : xs.length ≤ 1000000) (hc : ∀ (j : Nat) (x : Int), xs[j]? = some x → w.cell? ⟨b, o + j, none⟩ = some (iv x)) :
    Calls Tryz.prog 133 #[.slice (some ⟨b, o, none⟩) xs.length c] w (RowRetN w xs) := by
  obtain ⟨i0, hi, hz0, hz1, hz2⟩ := info_parts infoInt
  refine (AnyE.slices_Clone layClone_ints i0 _ 1 8 hi hz0 hz1 hz2 rfl (by decide) Tryz.sizeOf3 b o xs.length c (xs.map iv) w (by simp) (by unfold maxLen; omega) (by omega) (fun j u h => ?_) (fun u h => ?_)).mono ?_
  · rw [List.getElem?_map] at h
    cases hx : xs[j]? with
    | none => rw [hx] at h; simp at h
    | some x => rw [hx] at h; injection h with h; rw [← h]; exact hc j x hx
  · obtain ⟨x, -, rfl⟩ := List.mem_map.1 h; rfl
  · rintro e w' ⟨v', rfl, hown, hne, hb⟩
    have h2 := hown.2
    rcases h2 with ⟨h0, -⟩ | ⟨g, cap, _, hv, _⟩
    · exact absurd h0 hne
    · subst hv
      exact ⟨g, cap, rfl, hb, hown⟩
end Go.Proofs.YtbpfkmpkadimeaaGreatDoor

/- spelling.box: what its iterator yields. -/
namespace Go.Proofs.YtbpfkmpkadimeaaGreatDoor
open Go.RowKit Go.Lib Go.Shelf
attribute [local go_sem] Oper.semAt_some

/-- what is yielded: the nominal's index, the counts, where these lie -/
structure BX where
  i : Nat
  cs : List Int
  g : Nat
  c : Nat
def BX.enc (x : BX) : Value := .agg #[.int .i64 x.i, .slice (some ⟨x.g, 0, none⟩) x.cs.length x.c]
def stripX (x : BX) : Nat × List Int := (x.i, x.cs)
/-- a row of ints in a block of its own -/
def RowAt (W : World) (x : BX) : Prop := (∃ cur, W.heap[x.g]? = some (.cells cur 3 (0, 0))) ∧ El W iv (some ⟨x.g, 0, none⟩) x.cs
theorem El.fx {α : Type} {w w' : World} {enc : α → Value} {b o : Nat} {xs : List α} {p : Nat → Prop} (h : El w enc (some ⟨b, o, none⟩) xs) (k : Fx p w w') (hp : ¬ p b) : El w' enc (some ⟨b, o, none⟩) xs := by
  rcases h with h | ⟨b', o', ha, hb, hc⟩
  · exact .inl h
  · injection ha with ha; injection ha with h1 h2
    subst h1; subst h2
    exact .inr ⟨b, o, rfl, Nat.lt_of_lt_of_le hb k.size, fun i x hx => by rw [k.cell hb hp]; exact hc i x hx⟩
theorem RowAt.lt {W : World} {x : BX} (h : RowAt W x) : x.g < W.heap.size := by
  obtain ⟨⟨cur, h⟩, _⟩ := h
  exact (Array.getElem?_eq_some_iff.1 h).1
theorem RowAt.fx {W W' : World} {x : BX} {p : Nat → Prop} (h : RowAt W x) (k : Fx p W W') (hp : ¬ p x.g) : RowAt W' x := by
  refine ⟨?_, h.2.fx k hp⟩
  obtain ⟨cur, hc⟩ := h.1
  exact ⟨cur, (k.block _ h.lt hp).trans hc⟩
theorem RowAt.fr {W W' : World} {x : BX} (h : RowAt W x) (k : Fr W W') : RowAt W' x := h.fx (p := fun _ => False) (Fx.of_fr k) (fun e => e)
theorem RowAt.ne {W : World} {x : BX} (h : RowAt W x) {base : Nat} {size n : Nat} {v : Value} {xs : List Value} (ho : W.ownsRow base 50 size v n xs) : v.ownBlock ≠ some x.g := by
  intro e
  rcases ho.2 with ⟨rfl, _⟩ | ⟨g', cap, cur, rfl, _, hh, _⟩
  · simp [Value.ownBlock] at e
  · have e2 : g' = x.g := by simpa [Value.ownBlock] using e
    subst e2
    obtain ⟨c, hc⟩ := h.1
    rw [hh] at hc
    injection hc with hc
    injection hc with _ ht
    exact absurd ht (by decide)
def freshX (m n N : Nat) (n₀ : Nat) (p : Nat → Prop) (pre : List BX) (x : BX) (W : World) : Prop := pre.length < (boxL m n N).length ∧ stripX x ∈ boxL m n N ∧ n₀ ≤ x.g ∧ ¬ p x.g ∧ RowAt W x
theorem ownsRow_blk {W : World} {base : Nat} {e : TypeId} {size n m cap g : Nat} {xs : List Value} (h : W.ownsRow base e size (.slice (some ⟨g, 0, none⟩) n cap) m xs) : ∃ cur, W.heap[g]? = some (.cells cur e (0, 0)) := by
  rcases h.2 with ⟨h2, _⟩ | ⟨g', cap', cur, hv, _, hh, _⟩
  · cases h2
  · injection hv with hv
    injection hv with hv; injection hv with hv
    subst hv
    exact ⟨cur, hh⟩
theorem box_lt {m k N i : Nat} (hi : i < N) {used : List (List Int)} {cs : List Int} {rst : List (List Int)} (hC : boxC m k = used ++ cs :: rst) {xs : List BX} (hx : xs.map stripX = boxL m k i ++ used.map fun cs => (i, cs)) : xs.length < (boxL m k N).length := by
  have h1 : xs.length = (boxL m k i).length + used.length := by rw [← List.length_map (f := stripX), hx, List.length_append, List.length_map]
  have h2 : (boxC m k).length = used.length + 1 + rst.length := by rw [hC, List.length_append, List.length_cons]; omega
  rw [boxC_size] at h2
  rw [boxL_size] at h1 ⊢
  have h3 : (i + 1) * (2 * m + 1) ^ k ≤ N * (2 * m + 1) ^ k := Nat.mul_le_mul_right _ hi
  rw [Nat.add_mul, Nat.one_mul] at h3
  omega
/-- the cells of the iterator's own row -/
def Cnt (W : World) (cb : Nat) (L : List Value) : Prop := cb < W.heap.size ∧ ∀ (j : Nat) (u : Value), L[j]? = some u → W.cell? ⟨cb, j, none⟩ = some u ∧ W.frozen? ⟨cb, j, none⟩ = false
theorem Cnt.fx {p : Nat → Prop} {W W' : World} {cb : Nat} {L : List Value} (h : Cnt W cb L) (k : Fx p W W') (hp : ¬ p cb) : Cnt W' cb L :=
  ⟨Nat.lt_of_lt_of_le h.1 k.size, fun j y hy => by rw [k.cell h.1 hp, k.frozen h.1 hp]; exact h.2 j y hy⟩
theorem Cnt.set {W : World} {cb : Nat} {L : List Value} (h : Cnt W cb L) (i : Nat) (hi : i < L.length) (u : Value) : Cnt (W.setCell ⟨cb, i, none⟩ u) cb (L.set i u) := by
  refine ⟨by simp [World.setCell]; exact h.1, fun j y hy => ?_⟩
  rw [World.frozen?_setCell]
  by_cases e : i = j
  · subst e
    rw [List.getElem?_set_self hi] at hy
    injection hy with hy
    subst hy
    have := h.2 i _ (List.getElem?_eq_getElem hi)
    exact ⟨World.cell?_setCell_same' _ _ _ (by rw [this.1]; rfl), this.2⟩
  · rw [List.getElem?_set_ne e] at hy
    have := h.2 j y hy
    exact ⟨by rw [World.cell?_setCell_other _ _ _ _ (by intro e2; injection e2 with _ e2; exact e e2)]; exact this.1, this.2⟩

theorem odo_set (j : Nat) (a x y : Int) (t : List Int) : ((List.replicate j a ++ x :: t).map iv).set j (iv y) = (List.replicate j a ++ y :: t).map iv := by
  rw [List.map_append, List.set_append_right _ _ (by simp)]; simp
theorem rep_snoc (j : Nat) (a : Int) (t : List Int) : List.replicate (j + 1) a ++ t = List.replicate j a ++ a :: t := by
  rw [List.replicate_succ', List.append_assoc]; rfl
theorem take_set_succ {α : Type} {L : List α} {k : Nat} {v : α} (h : k < L.length) : (L.set k v).take (k + 1) = L.take k ++ [v] := by
  rw [List.take_add_one, List.getElem?_set_self h, List.take_set_of_le (Nat.le_refl _)]; rfl

theorem wpListIn_make_full {F : Fence} {rm : Nat} {P : Program} (w : World) {ops : Array Oper} {rest : List Oper} {o : Oper} {a : Act} {Q : Exit → Act → World → Prop}
    (hg : o.guard = none) (l c : Operand) (t : TypeId) (hop : o.op = Op.makeSlice t l c)
    (base : Nat) (e : TypeId) (i : TypeInfo) (z : Value) (size : Nat) (h1 : P.underlying t = some (.slice e)) (h2 : P.info? e = some i) (h3 : i.zero = some z) (h4 : i.size = size)
    (kl kc : IntKind) (L C : Int) (n : Nat) (hl : a.eval l = .int kl L) (hc : a.eval c = .int kc C) (hL : L = (n : Int)) (hC : C = (n : Int)) (b2 : i.bytes * n ≤ 281474976710656) (b3 : n ≤ maxLen) (b4 : base ≤ w.heap.size)
    (hK : ∀ w', w'.ownsRow base e size (.slice (some ⟨w.heap.size, 0, none⟩) n n) n (madeCells z.cells (n * size)).toList → w.grownBy w' none → wpListIn F rm P ops Q rest (a.put o.dst (.slice (some ⟨w.heap.size, 0, none⟩) n n)) w') :
    wpListIn F rm P ops Q (o :: rest) a w := by
  refine wpListIn_plain hg fun K hK' => ?_
  obtain ⟨w', hrun, r1, r2⟩ := run_make_full (P := P) w base t e i z size h1 h2 h3 h4 kl kc n b2 b3 b4
  subst hL
  subst hC
  unfold Oper.wpIn
  refine ⟨?_, ?_⟩
  · simp [Oper.about, hop]
  · rw [Oper.semAt_plain F _ _ (by rw [hop]; intro c hc'; cases hc')]
    simp [execOp, hop, hl, hc, hrun, Result.andThen]
    exact hK' _ _ (hK w' r1 r2)

set_option maxRecDepth 100000 in
set_option maxHeartbeats 4000000 in
theorem box_seq (Bn Bm N n m : Nat) (aN aA : Option Addr) (cN cA : Nat) (w0 : World) (hN : N ≤ 1000) (hn : n ≤ 1000) (hm : m ≤ 1000000) (hBn : Bn < w0.heap.size) (hBm : Bm < w0.heap.size)
    (h1 : w0.cell? ⟨Bn, 0, none⟩ = some (.slice aN N cN)) (h2 : w0.cell? ⟨Bn, 1, none⟩ = some (.slice aA n cA)) (h3 : w0.cell? ⟨Bm, 0, none⟩ = some (.int .i64 m)) (q : Nat → Prop) (hq9 : ∀ k, q k → k ≠ Bn ∧ k ≠ Bm) :
    SeqX Fence.wide 3 Tryz.prog 208 #[.pointer (some ⟨Bn, 0, none⟩), .pointer (some ⟨Bm, 0, none⟩)] (fun x => #[BX.enc x]) (freshX m n N) (fun xs => xs.map stripX = boxL m n N) w0 q := by
  intro l J W hfr hJ hY h0
  refine callsIn_of_wp Tryz.func208 rfl trivial ?_ rfl
  simp only [Tryz.ntmps208, List.size_toArray, List.length_cons, List.length_nil, Nat.reduceAdd, Nat.reduceSub, Array.replicate_succ, Array.replicate_zero, List.push_toArray, List.append_toArray, List.nil_append, List.cons_append]
  have e1 := hfr.keep h1
  have e2 := hfr.keep h2
  have e3 := hfr.keep h3
  replace h1 := Lib.hid h1
  replace h2 := Lib.hid h2
  replace h3 := Lib.hid h3
  replace hY := Lib.hid hY
  replace hq9 := Lib.hid hq9
  obtain ⟨i0, hinf, hz0, hz1, hz2⟩ := info_parts infoInt
  gi_wp2
  gi_loopg [11] N (fun k s11 wr => ∃ (i : Nat) (p : Nat → Prop) (xs : List BX), s11 = .int .i64 i ∧ i + k = N ∧ J p xs wr ∧ (∀ k, p k → W.heap.size ≤ k ∧ k < wr.heap.size) ∧ Hid (xs.map stripX = boxL m n i) ∧ Fx (fun k => k ≠ Bn ∧ k ≠ Bm) W wr)
  case atStart => exact ⟨0, fun _ => False, [], rfl, by omega, h0, fun k e => e.elim, rfl, Fx.refl _ _⟩
  case round =>
    obtain ⟨i, p, xs, rfl, hik, hj, hp, hxs, hfx⟩ := hrel
    obtain ⟨wo, rfl⟩ : ∃ wo : World, wo = wr := ⟨_, rfl⟩
    obtain ⟨ko, rfl⟩ : ∃ ko : Nat, ko = gk := ⟨_, rfl⟩
    by_cases hi : i < N
    · have hd : decide (i < N) = true := decide_eq_true hi
      have c1 := hfx.keep e1 (fun e9 => e9.1 rfl)
      have c2 := hfx.keep e2 (fun e9 => e9.1 rfl)
      have c3 := hfx.keep e3 (fun e9 => e9.2 rfl)
      have hszw := hfx.size
      gi_wp2_with (gi_at_make; refine wpListIn_make_full _ rfl _ _ 44 rfl wo.heap.size 3 i0 _ 1 Tryz.underlying44 hinf hz0 hz1 _ _ _ _ n (by rfl) (by rfl) (by omega) (by omega) (by rw [hz2]; omega) (by unfold maxLen; omega) (Nat.le_refl _) ?_; intro w2 hown2 hgr2)
      obtain ⟨-, -, hcb, -, hcl⟩ := ownsRow_some hown2
      have hf2 : Fr wo w2 := (Fr.refl wo).grown hgr2 (fun k e => by cases e)
      obtain ⟨L0, hL0⟩ : ∃ L0, L0 = (madeCells (Value.cells (Value.int .i64 0)) (n * 1)).toList := ⟨_, rfl⟩
      have hlen0 : L0.length = n := by rw [hL0]; exact (ownsRow_whole hown2).2.2
      have hcnt : Cnt w2 wo.heap.size L0 := ⟨hcb, by rw [hL0]; exact hcl⟩
      have hj2 := hJ p (· = wo.heap.size) xs _ _ hj (Fx.of_fr hf2) (fun k e => .inr (by have e : k = wo.heap.size := e; omega))
      have hfx2 := hfx.fr hf2
      have hBnc : Bn < wo.heap.size := by have := hfr.size; omega
      have hBmc : Bm < wo.heap.size := by have := hfr.size; omega
      replace hL0 := Lib.hid hL0
      replace hlen0 := Lib.hid hlen0
      clear hown2 hcl c1 c2 c3 hd hj hp
      gi_wp2
      gi_loopg [20] n (fun m2 s20 wr2 => ∃ (k : Nat) (L : List Value), s20 = .int .i64 k ∧ k + m2 = n ∧ Cnt wr2 wo.heap.size L ∧ Hid (L.length = n) ∧ Hid (L.take k = List.replicate k (iv (-(m : Int)))) ∧ J (· = wo.heap.size) xs wr2 ∧ Fx (fun k => k ≠ Bn ∧ k ≠ Bm) W wr2)
      case atStart => exact ⟨0, L0, rfl, by omega, hcnt, hlen0, rfl, hj2, hfx2⟩
      case round =>
        clear hcnt hj2 hfx2 hf2 hgr2 hL0 hlen0
        obtain ⟨k, L, rfl, hkn, hcnt, hlen, htk, hj2, hfx2⟩ := hrel
        have c3 := hfx2.keep e3 (fun e9 => e9.2 rfl)
        by_cases hk : k < n
        · have hd : decide (k < n) = true := decide_eq_true hk
          have z1 : (k : Int) < (n : Int) := by omega
          have z2 : (0 : Int) ≤ (k : Int) := by omega
          obtain ⟨u, hu⟩ : ∃ u, L[k]? = some u := ⟨_, List.getElem?_eq_getElem (by rw [hlen.out]; exact hk)⟩
          obtain ⟨ck, fk⟩ := hcnt.2 k u hu
          replace hu := Lib.hid hu
          gi_wp2
          have hfc : Fx (· = wo.heap.size) wr (wr.setCell ⟨wo.heap.size, k, none⟩ (.int .i64 (-(m : Int)))) := Fx.setCell (p := (· = wo.heap.size)) (q := ⟨wo.heap.size, k, none⟩) (Fx.refl _ wr) (.inl rfl) _
          have hk2 : k < L.length := by rw [hlen.out]; exact hk
          gi_roundg (gk - 1)
          case measure => omega
          case rel =>
            refine ⟨k + 1, L.set k (iv (-(m : Int))), by go_num, by omega, hcnt.set k hk2 _, Lib.hid (by rw [List.length_set]; exact hlen.out), Lib.hid ?_, hJ _ _ _ _ _ hj2 hfc (fun k e => .inl e), hfx2.trans (hfc.mono fun k e => by have e : k = wo.heap.size := e; have := hfr.size; exact ⟨by omega, by omega⟩)⟩
            rw [take_set_succ hk2, htk.out, List.replicate_succ']
        · obtain rfl : k = n := by omega
          have hd : decide (k < k) = false := decide_eq_false hk
          obtain rfl : L = List.replicate k (iv (-(m : Int))) := by rw [← htk.out, List.take_of_length_le (by rw [hlen.out]; exact Nat.le_refl _)]
          clear hkn htk hlen
          obtain ⟨C, hC⟩ : ∃ C, C = boxC m k := ⟨_, rfl⟩
          have hrun := (isRun_box m k).1
          have hhead := (isRun_box m k).2
          have hlenC := boxC_len m k
          have hsizeC := boxC_mem m k
          rw [← hC] at hrun hhead hlenC hsizeC
          obtain ⟨rest, hrest⟩ : ∃ rest, C = List.replicate k (-(m : Int)) :: rest := by
            cases C with
            | nil => simp at hhead
            | cons x l => injection hhead with hhead; exact ⟨l, by rw [hhead]⟩
          replace hrun := Lib.hid hrun
          replace hrest := Lib.hid hrest
          replace hlenC := Lib.hid hlenC
          replace hsizeC := Lib.hid hsizeC
          replace hC := Lib.hid hC
          clear hhead
          have hcnt2 : Cnt wr wo.heap.size ((List.replicate k (-(m : Int))).map iv) := by rw [List.map_replicate]; exact hcnt
          clear hcnt
          gi_wp2
          gi_loopg [7] rest.length (fun q _ wr3 => ∃ (used : List (List Int)) (cs : List Int) (rst : List (List Int)) (xs3 : List BX), Hid (C = used ++ cs :: rst) ∧ rst.length = q ∧ Hid (IsRun m (cs :: rst)) ∧ Cnt wr3 wo.heap.size (cs.map iv) ∧ Hid (xs3.map stripX = boxL m k i ++ used.map (fun cs => (i, cs))) ∧ J (· = wo.heap.size) xs3 wr3 ∧ Fx (fun k => k ≠ Bn ∧ k ≠ Bm) W wr3)
          case atStart => exact ⟨[], List.replicate k (-(m : Int)), rest, xs, hrest, rfl, Lib.hid (by have h := hrun.out; rw [hrest.out] at h; exact h), hcnt2, Lib.hid (by rw [hxs.out]; simp), hj2, hfx2⟩
          case round =>
            clear hcnt2 hj2 hfx2 hrest hrun
            obtain ⟨used, cs, rst, xs3, hCe, hq, hrun, hcnt, hx3, hj3, hfx3⟩ := hrel
            have hmem : cs ∈ C := by rw [hCe.out]; simp
            have hcl := hlenC.out cs hmem
            have hcb := hsizeC.out cs hmem
            replace hmem := Lib.hid hmem
            replace hcb := Lib.hid hcb
            obtain ⟨cl, hcl9⟩ : ∃ cl, cl = cs.length := ⟨_, rfl⟩
            have hclone := Clone_row wo.heap.size 0 k cs wr (by omega) (fun j x hx => by rw [Nat.zero_add]; exact (hcnt.2 j _ (by rw [List.getElem?_map, hx]; rfl)).1)
            rw [hcl] at hclone
            replace hclone := Lib.hid hclone
            obtain ⟨w3, rfl⟩ : ∃ w3 : World, w3 = wr := ⟨_, rfl⟩
            obtain ⟨k3, rfl⟩ : ∃ k3 : Nat, k3 = gk := ⟨_, rfl⟩
            gi_wp2_with (refine ⟨trivial, ?_⟩; gi_at_call 146; refine (callsIn_wide.2 hclone.out).mono ?_; rintro e w4 ⟨g4, c4, rfl, hf4, hown4⟩; obtain ⟨-, hg4, hg5, -, hcells⟩ := ownsRow_some hown4; have hblk := ownsRow_blk hown4; have hj4 := hJ _ (· = wo.heap.size) _ _ _ hj3 (Fx.of_fr hf4) (fun k e => .inl e); obtain ⟨fn, tmps, assign, body, hy, hR⟩ := hY.out (· = wo.heap.size) xs3 ⟨i, cs, g4, c4⟩ w4 hj4 (fun k e => by have e : k = wo.heap.size := e; omega) ⟨box_lt hi (show boxC m k = used ++ cs :: rst by rw [← hC.out]; exact hCe.out) hx3.out, List.mem_flatMap.2 ⟨i, List.mem_range.2 hi, List.mem_map.2 ⟨cs, by rw [← hC.out]; exact hmem.out, rfl⟩⟩, Nat.le_trans hfx3.size hg4, fun e => by have e : g4 = wo.heap.size := e; have := hcnt.1; omega, hblk, .inr ⟨g4, 0, rfl, hg5, fun j x hx => by rw [Nat.zero_add]; exact (hcells j _ (by rw [List.getElem?_map, hx]; rfl)).1⟩⟩; simp only [BX.enc, hcl] at hy)
            refine hR.mono ?_
            rintro e w5 ⟨rfl, hj5, hk5⟩
            have hcnt5 := (hcnt.fx (p := fun _ => False) (Fx.of_fr hf4) (fun e => e)).fx hk5 (fun e => e.1 rfl)
            have hfx5 := (hfx3.fr hf4).trans (hk5.mono fun k e => hq9.out k e.2)
            obtain ⟨xs5, hxs5⟩ : ∃ xs5, xs5 = xs3 ++ [(⟨i, cs, g4, c4⟩ : BX)] := ⟨_, rfl⟩
            rw [← hxs5] at hj5
            have hx5 := Lib.hid (show xs5.map stripX = boxL m k i ++ (used ++ [cs]).map (fun cs => (i, cs)) by rw [hxs5, List.map_append, hx3.out]; simp [stripX])
            have hnx := Lib.hid (isRun_next hrun.out)
            have hrun2 := Lib.hid (isRun_tail hrun.out)
            clear hR hy hown4 hcells hj4 hf4 hk5 hg4 hg5 hcnt hj3 hfx3 hclone hxs5 hx3 hcl9
            gi_wp2
            gi_loopg [7] k (fun q s7 wr4 => ∃ j : Nat, s7 = .int .i64 j ∧ j + q = k ∧ Cnt wr4 wo.heap.size ((List.replicate j (-(m : Int)) ++ cs.drop j).map iv) ∧ Hid (rst.head? = (nextC m (cs.drop j)).map (fun t => List.replicate j (-(m : Int)) ++ t)) ∧ J (· = wo.heap.size) xs5 wr4 ∧ Fx (fun k => k ≠ Bn ∧ k ≠ Bm) W wr4)
            case atStart => exact ⟨0, rfl, by omega, by simpa using hcnt5, Lib.hid (by rw [← hnx.out]; simp), hj5, hfx5⟩
            case round =>
              clear hcnt5 hj5 hfx5 hnx
              obtain ⟨j, rfl, hjk, hcnt, hnx, hj5, hfx5⟩ := hrel
              have c3 := hfx5.keep e3 (fun e9 => e9.2 rfl)
              by_cases hjl : j < k
              · have hlt : j < cs.length := by omega
                obtain ⟨x, hx⟩ : ∃ x, x = cs[j] := ⟨_, rfl⟩
                have hdr : cs.drop j = x :: cs.drop (j + 1) := by rw [hx]; exact List.drop_eq_getElem_cons hlt
                obtain ⟨cj, fj⟩ := hcnt.2 j (iv x) (by rw [hdr, List.getElem?_map, List.getElem?_append_right (by simp)]; simp)
                have hxb := hcb.out x (by rw [hx]; exact List.getElem_mem hlt)
                have z1 : (j : Int) < (k : Int) := by omega
                have z2 : (0 : Int) ≤ (j : Int) := by omega
                replace hdr := Lib.hid hdr
                replace hx := Lib.hid hx
                by_cases hxm : x = (m : Int)
                · subst hxm
                  gi_wp2
                  gi_quiet (fail)
                  gi_wp2
                  have hfq : Fr wr (wr.drewN nq) := (Fr.refl wr).drewN nq
                  have hfc : Fx (· = wo.heap.size) wr ((wr.drewN nq).setCell ⟨wo.heap.size, j, none⟩ (.int .i64 (-(m : Int)))) := Fx.setCell (p := (· = wo.heap.size)) (q := ⟨wo.heap.size, j, none⟩) (Fx.of_fr hfq) (.inl rfl) _
                  gi_roundg (gk - 1)
                  case measure => omega
                  case rel =>
                    refine ⟨j + 1, by go_num, by omega, ?_, Lib.hid ?_, hJ _ _ _ _ _ hj5 hfc (fun k e => .inl e), hfx5.trans (hfc.mono fun k e => by have e : k = wo.heap.size := e; have := hfr.size; exact ⟨by omega, by omega⟩)⟩
                    · have h := (hcnt.fx (p := fun _ => False) (Fx.of_fr hfq) (fun e => e)).set j (by simp; omega) (iv (-(m : Int)))
                      rw [hdr.out, odo_set, ← rep_snoc] at h
                      exact h
                    · rw [hnx.out, hdr.out, nextC, if_pos rfl, Option.map_map]
                      congr 1
                      funext t
                      exact (rep_snoc j _ t).symm
                · have hbx : (x == (m : Int)) = false := beq_false_of_ne hxm
                  have hjk2 : (j == k) = false := beq_false_of_ne (by omega)
                  gi_wp2
                  gi_quiet (fail)
                  gi_wp2
                  have hfq : Fr wr (wr.drewN nq) := (Fr.refl wr).drewN nq
                  have hfc : Fx (· = wo.heap.size) wr ((wr.drewN nq).setCell ⟨wo.heap.size, j, none⟩ (.int .i64 (x + 1))) := Fx.setCell (p := (· = wo.heap.size)) (q := ⟨wo.heap.size, j, none⟩) (Fx.of_fr hfq) (.inl rfl) _
                  have hnext : rst.head? = some (List.replicate j (-(m : Int)) ++ (x + 1) :: cs.drop (j + 1)) := by
                    rw [hnx.out, hdr.out, nextC, if_neg hxm]; rfl
                  have hC2 := hCe.out
                  have hr2 := hrun2.out
                  cases rst with
                  | nil => simp at hnext
                  | cons y rst2 =>
                    injection hnext with hnext
                    subst hnext
                    gi_roundg (rst2.length)
                    case measure => simp at hq; omega
                    case rel =>
                      refine ⟨used ++ [cs], _, rst2, xs5, Lib.hid (by rw [hC2]; simp), rfl, Lib.hid hr2, ?_, hx5, hJ _ _ _ _ _ hj5 hfc (fun k e => .inl e), hfx5.trans (hfc.mono fun k e => by have e : k = wo.heap.size := e; have := hfr.size; exact ⟨by omega, by omega⟩)⟩
                      have h := (hcnt.fx (p := fun _ => False) (Fx.of_fr hfq) (fun e => e)).set j (by simp; omega) (iv (x + 1))
                      rw [hdr.out, odo_set] at h
                      exact h
              · obtain rfl : j = k := by omega
                gi_wp2
                gi_quiet (fail)
                gi_wp2
                have hfq : Fr wr (wr.drewN nq) := (Fr.refl wr).drewN nq
                have hnone : rst = [] := by
                  have h := hnx.out
                  rw [List.drop_of_length_le (by omega), nextC] at h
                  cases rst with
                  | nil => rfl
                  | cons y l => simp at h
                have hC2 := hCe.out
                rw [hnone, hC.out] at hC2
                gi_roundg (ko - 1)
                case measure => omega
                case rel =>
                  exact ⟨i + 1, (· = wo.heap.size), xs5, by go_num, by omega, hJ _ _ _ _ _ hj5 (Fx.of_fr hfq) (fun k e => .inl e), fun k e => by have e : k = wo.heap.size := e; have := hcnt.1; have := hfq.size; omega, Lib.hid (by rw [boxL_succ, hC2]; exact hx5.out), hfx5.fr hfq⟩
    · obtain rfl : i = N := by omega
      have hd : decide (i < i) = false := decide_eq_false hi
      gi_wp2
      go_end0
      exact ⟨⟨_, rfl⟩, p, xs, hxs.out, hj⟩
end Go.Proofs.YtbpfkmpkadimeaaGreatDoor

/- smith.Kernel. -/
namespace Go.Proofs.YtbpfkmpkadimeaaGreatDoor
open Go.RowKit Go.Lib
attribute [local go_sem ↓] Go.wp_at_zero Go.wp_at_succ

def fitG (g : List (List Int)) : Bool := g.all fun r => r.all fitB
/-- multiples of the rows of a matrix that has some, whose sum is zero -/
def kerS (F n : Nat) (m : List (List Int)) : Option (List (List Int)) :=
  (herm F (n + m.length) 0 (wideM m) 0).bind fun r => if fitG (kerTo n (r.1.take r.2)) then some (kerTo n (r.1.take r.2)) else none

theorem fit_sm {x : Int} (h : fitB x = true) : Sm x := by
  unfold fitB at h; have h := of_decide_eq_true h; exact ⟨by omega, by omega⟩

set_option maxHeartbeats 4000000 in
theorem Kernel_any (m K : List (List Int)) (a : Option Addr) (cap n F : Nat) (w : World) (hG : G w) (hm : MatIs w a m) (hok : TabOk n m) (hn : 1 ≤ n) (hl : 1 ≤ m.length) (hk : kerS F n m = some K) :
    Calls Tryz.prog 44 #[.slice a m.length cap] w (MatRet w K) := by
  obtain ⟨⟨gF, tF⟩, hh, hk2⟩ := Option.bind_eq_some_iff.1 hk
  simp only at hk2
  split at hk2
  · rename_i hfit
    injection hk2 with hk2
    have hkl : K.length ≤ gF.length := by
      rw [← hk2]; unfold kerTo; rw [List.length_map]; exact Nat.le_trans (List.length_filter_le _ _) (by rw [List.length_take]; omega)
    have hkr : ∀ r, r ∈ K → ∃ l, l ∈ gF ∧ r = l.drop n := fun r hr => by
      rw [← hk2] at hr
      obtain ⟨l, hl1, hl2⟩ := List.mem_map.1 hr
      exact ⟨l, List.mem_of_mem_take (List.mem_filter.1 hl1).1, hl2.symm⟩
    have hfb : ∀ r, r ∈ K → ∀ x, x ∈ r → fitB x = true := fun r hr x hx => by
      rw [← hk2] at hr
      exact List.all_eq_true.1 (List.all_eq_true.1 hfit r hr) x hx
    have htab := tabCheck_ok m a cap n w hm hok
    have hwide := fun W hW => wide_any m gF a cap n F tF W (hG.fr hW) (hm.fr hW) hok.2.2.1 hn (by have := hok.2.1; omega) hl (by have := hok.1; omega) (fun r hr x hx => fit_sm (hok.2.2.2 r hr x hx)) hh
    have hl12 := hok.1
    have hn12 := hok.2.1
    have hG1 := Lib.hid hG
    have hk3 := Lib.hid hk2
    have hkl := Lib.hid hkl
    have hkr := Lib.hid hkr
    have hfb := Lib.hid hfb
    have hwide := Lib.hid hwide
    clear hm hok hk hk2 hfit hG hh
    rename_i q1 q2 q3 q4
    clear q1 q2 q3 q4
    go_enter Tryz.func44, Tryz.ntmps44
    go_wp2_with fail
    refine htab.mono ?_
    clear htab
    rintro e w1 ⟨rfl, hf1⟩
    go_wp2_with fail
    refine (hwide.out w1 hf1).mono ?_
    rintro e w2 ⟨ob, oc, hs, rfl, hg, hcap, hr, ht, hgl, hf2⟩
    replace hg := Lib.hid hg
    replace hcap := Lib.hid hcap
    replace hr := Lib.hid hr
    go_wp2_with fail
    refine (kernel_any ob oc tF n (n + m.length) hs gF w2 (hG1.out.fr (hf1.trans hf2)) hg.out hr.out (by omega) (by omega) (by omega) ht hcap.out).mono ?_
    rintro e w3 ⟨v, hO, rfl, hgg, hf3⟩
    rw [hk3.out] at hgg
    obtain ⟨a9, c9, rfl, -⟩ := ownsRow_slice hgg.own
    replace hgg := Lib.hid hgg
    have hfw := (hf1.trans hf2).trans hf3
    go_wp2_with fail
    refine (small_any _ _ a9 c9 hO K w3 (hG1.out.fr hfw) hgg.out (by have := hkl.out; omega) (fun r hr9 => by obtain ⟨l, hl1, hl2⟩ := hkr.out r hr9; rw [hl2, List.length_drop, hr.out l hl1]; omega) hfb.out).mono ?_
    rintro e w4 ⟨a5, c5, rfl, hm5, hf4⟩
    replace hm5 := Lib.hid hm5
    go_wp2_with fail
    go_ret2
    exact ⟨a5, c5, rfl, hm5.out, hfw.trans hf4⟩
  · simp at hk2
end Go.Proofs.YtbpfkmpkadimeaaGreatDoor

/- spelling.sum, checkSpelling, open, Read. -/
namespace Go.Proofs.YtbpfkmpkadimeaaGreatDoor
open Go.RowKit Go.Lib

def addK (k : Int) (out x : List Int) : List Int := List.zipWith (fun o y => o + k * y) out x
def sumL (r : List Int) : List Int → List (List Int) → List Int
  | k :: ks, x :: xs => sumL (addK k r x) ks xs
  | _, _ => r
def rowOf (N : List Sy) (i : Nat) : List Int := ((N[i]?).map Sy.row).getD []
def sumS (N A : List Sy) (s : Nat × List Int) : List Int := sumL (rowOf N s.1) s.2 (A.map Sy.row)
theorem rowOf_eq {N : List Sy} {i : Nat} {x : Sy} (h : N[i]? = some x) : rowOf N i = x.row := by unfold rowOf; rw [h]; rfl
theorem addK_length {k : Int} {r x : List Int} (h : x.length = r.length) : (addK k r x).length = r.length := by unfold addK; rw [List.length_zipWith]; omega
theorem addK_get {k : Int} {r x : List Int} {c : Nat} {a b : Int} (h1 : r[c]? = some a) (h2 : x[c]? = some b) : (addK k r x)[c]? = some (a + k * b) := by
  unfold addK; rw [List.getElem?_zipWith, h1, h2]
/-- the sum behind j steps -/
theorem sumL_step (r : List Int) : ∀ (ks : List Int) (xs : List (List Int)) (j : Nat) (k : Int) (x : List Int), ks[j]? = some k → xs[j]? = some x → sumL r (ks.take (j + 1)) (xs.take (j + 1)) = addK k (sumL r (ks.take j) (xs.take j)) x
  | [], xs, j, k, x, h, _ => by simp at h
  | k0 :: ks, [], j, k, x, _, h => by simp at h
  | k0 :: ks, x0 :: xs, 0, k, x, h, g => by simp at h g; subst h; subst g; simp [sumL]
  | k0 :: ks, x0 :: xs, j + 1, k, x, h, g => by
    have := sumL_step (addK k0 r x0) ks xs j k x (by simpa using h) (by simpa using g)
    simpa [sumL] using this
theorem sumL_length (d : Nat) : ∀ (ks : List Int) (xs : List (List Int)) (r : List Int), r.length = d → (∀ x, x ∈ xs → x.length = d) → (sumL r ks xs).length = d
  | [], xs, r, h, _ => by cases xs <;> exact h
  | k :: ks, [], r, h, _ => h
  | k :: ks, x :: xs, r, h, hx => by
    rw [sumL]
    exact sumL_length d ks xs _ (by rw [addK_length (by rw [h]; exact hx x (List.mem_cons_self ..))]; exact h) (fun y hy => hx y (List.mem_cons_of_mem _ hy))
def BdL (m : Int) (l : List Int) : Prop := ∀ x, x ∈ l → -m ≤ x ∧ x ≤ m
theorem mul_e18 {a b : Int} (h1 : -1000000000 ≤ a ∧ a ≤ 1000000000) (h2 : -1000000000 ≤ b ∧ b ≤ 1000000000) : -1000000000000000000 ≤ a * b ∧ a * b ≤ 1000000000000000000 := by
  have h3 : a.natAbs ≤ 1000000000 := by omega
  have h4 : b.natAbs ≤ 1000000000 := by omega
  have h5 : a.natAbs * b.natAbs ≤ 1000000000 * 1000000000 := Nat.mul_le_mul h3 h4
  have h6 := Int.natAbs_mul a b
  omega
theorem fitB_bd {x : Int} (h : fitB x = true) : -1000000000 ≤ x ∧ x ≤ 1000000000 := by
  unfold fitB at h; exact of_decide_eq_true h
theorem sumL_bd : ∀ (ks : List Int) (xs : List (List Int)) (r : List Int) (m : Int), BdL m r → (∀ k, k ∈ ks → fitB k = true) → (∀ x, x ∈ xs → ∀ y, y ∈ x → fitB y = true) → BdL (m + 1000000000000000000 * ks.length) (sumL r ks xs)
  | [], xs, r, m, h, _, _ => by cases xs <;> (intro x hx; have := h x hx; simp; omega)
  | k :: ks, [], r, m, h, _, _ => fun x hx => by have := h x hx; simp only [List.length_cons]; omega
  | k :: ks, x :: xs, r, m, h, hk, hx => by
    rw [sumL]
    have h1 : BdL (m + 1000000000000000000) (addK k r x) := fun z hz => by
      unfold addK at hz
      obtain ⟨i, hi⟩ := List.getElem?_of_mem hz
      rw [List.getElem?_zipWith] at hi
      cases ha : r[i]? with
      | none => rw [ha] at hi; simp at hi
      | some a =>
        cases hb : x[i]? with
        | none => rw [ha, hb] at hi; simp at hi
        | some b =>
          rw [ha, hb] at hi
          injection hi with hi
          have q1 := h a (List.mem_of_getElem? ha)
          have q2 := mul_e18 (fitB_bd (hk k (List.mem_cons_self ..))) (fitB_bd (hx x (List.mem_cons_self ..) b (List.mem_of_getElem? hb)))
          omega
    have := sumL_bd ks xs (addK k r x) (m + 1000000000000000000) h1 (fun y hy => hk y (List.mem_cons_of_mem _ hy)) (fun y hy => hx y (List.mem_cons_of_mem _ hy))
    intro z hz
    have := this z hz
    simp only [List.length_cons]
    omega

/-- a row of ints that the call has made -/
def RowNew (w : World) (xs : List Int) (e : Ending) (w' : World) : Prop := ∃ g c, e = .returned (.slice (some ⟨g, 0, none⟩) xs.length c) ∧ w.heap.size ≤ g ∧ El w' iv (some ⟨g, 0, none⟩) xs ∧ Fr w w'

set_option maxRecDepth 100000 in
set_option maxHeartbeats 4000000 in
theorem sum_any (d : Nat) (aN aA : Option Addr) (cN cA : Nat) (N A : List Sy) (i : Nat) (cs : List Int) (ca : Option Addr) (cc : Nat) (w : World) (hn : NotIs w aN aA cA N A) (hok : NotOk d N A) (hd : 1 ≤ d) (hi : i < N.length) (hcs : El w iv ca cs) (hl : cs.length = A.length) (hfit : ∀ x, x ∈ cs → fitB x = true) :
    Calls Tryz.prog 64 #[.agg #[.slice aN N.length cN, .slice aA A.length cA], .agg #[.int .i64 i, .slice ca cs.length cc]] w (RowNew w (sumS N A (i, cs))) := by
  have hn1 := hok.n1
  have hn60 := hok.n60
  have ha6 := hok.a6
  have hd12 := hok.d12
  obtain ⟨b, o, x, rfl, hbl, hxi, hc1, hc2, hel⟩ := hn.noms.at hi
  have hxm : x ∈ N ++ A := List.mem_append_left _ (List.mem_of_getElem? hxi)
  have hrl := hok.row x hxm
  have hrf := hok.fit x hxm
  have hro := rowOf_eq hxi
  have hAr : ∀ y, y ∈ A.map Sy.row → y.length = d := fun y hy => by obtain ⟨z, hz, rfl⟩ := List.mem_map.1 hy; exact hok.row z (List.mem_append_right _ hz)
  have hAf : ∀ y, y ∈ A.map Sy.row → ∀ u, u ∈ y → fitB u = true := fun y hy => by obtain ⟨z, hz, rfl⟩ := List.mem_map.1 hy; exact hok.fit z (List.mem_append_right _ hz)
  have hacc := hn.accs
  have hfin : sumS N A (i, cs) = sumL x.row cs (A.map Sy.row) := by unfold sumS; rw [hro]
  obtain ⟨rb, rO, hra⟩ : ∃ rb rO, x.ra = some ⟨rb, rO, none⟩ := by
    obtain ⟨b1, o1, x1, h1, _⟩ := hel.at (i := 0) (by omega)
    exact ⟨b1, o1, h1⟩
  rw [hra, hrl] at hc2
  rw [hra] at hel
  have hcl := fun W (hW : Fr w W) => Clone_ints rb rO x.rc x.row W (by omega) (fun j y hy => by
    rcases hel.fr hW with h | ⟨b9, o9, h1, _, h3⟩
    · rw [h] at hy; simp at hy
    · injection h1 with h1; injection h1 with h1 h2; subst h1; subst h2; exact h3 j y hy)
  rw [hrl] at hcl
  rw [hfin]
  have hbd0 : BdL 1000000000 x.row := fun y hy => fitB_bd (hrf y hy)
  obtain ⟨R, hR⟩ : ∃ R, R = x.row := ⟨_, rfl⟩
  rw [← hR] at hcl hbd0 hrl ⊢
  obtain ⟨n, hnn⟩ : ∃ n, n = cs.length := ⟨_, rfl⟩
  obtain ⟨XR, hXR⟩ : ∃ XR, XR = A.map Sy.row := ⟨_, rfl⟩
  have hlA : A.length = n := by omega
  have hbd := fun j => sumL_bd (cs.take j) (XR.take j) R 1000000000 hbd0 (fun k hk => hfit k (List.mem_of_mem_take hk)) (fun y hy => by rw [hXR] at hy; exact hAf y (List.mem_of_mem_take hy))
  have hln := fun j => sumL_length d (cs.take j) (XR.take j) R hrl (fun y hy => by rw [hXR] at hy; exact hAr y (List.mem_of_mem_take hy))
  rw [← hXR]
  rw [← hnn, hlA]
  have hn6 : n ≤ 6 := by omega
  obtain ⟨rc, hrc⟩ : ∃ rc, rc = x.rc := ⟨_, rfl⟩
  rw [← hrc] at hc2 hcl
  replace hcl := Lib.hid hcl
  replace hbd := Lib.hid hbd
  replace hln := Lib.hid hln
  replace hacc := Lib.hid hacc
  replace hcs := Lib.hid hcs
  replace hnn := Lib.hid hnn
  replace hlA := Lib.hid hlA
  replace hXR := Lib.hid hXR
  replace hAr := Lib.hid hAr
  replace hAf := Lib.hid hAf
  replace hrl := Lib.hid hrl
  replace hfit := Lib.hid hfit
  have z0 : (i : Int) < (N.length : Int) := by omega
  have z1 : (0 : Int) ≤ (i : Int) := by omega
  clear hn hok hl hxi hxm hrf hro hfin hra hel hrc hR hc1 hbd0
  have hfA : Fr w ((w.alloc (.cells #[.slice (some ⟨b, o, none⟩) N.length cN, .slice aA n cA] 31)).alloc (.cells #[.int .i64 i, .slice ca n cc] 50)) := ((Fr.refl w).alloc _).alloc _
  have p2 := new2b w (.slice (some ⟨b, o, none⟩) N.length cN) (.slice aA n cA) 31
  have p3 := (Fr.refl (w.alloc (.cells #[.slice (some ⟨b, o, none⟩) N.length cN, .slice aA n cA] 31))).alloc (.cells #[.int .i64 i, .slice ca n cc] 50) |>.keep p2.1
  have p4 := new2b (w.alloc (.cells #[.slice (some ⟨b, o, none⟩) N.length cN, .slice aA n cA] 31)) (.int .i64 i) (.slice ca n cc) 50
  rw [show (w.alloc (.cells #[.slice (some ⟨b, o, none⟩) N.length cN, .slice aA n cA] 31)).heap.size = w.heap.size + 1 by simp] at p4
  replace p3 := Lib.hid p3
  replace p4 := Lib.hid p4.1
  replace hfA := Lib.hid hfA
  clear p2
  go_enter Tryz.func64, Tryz.ntmps64
  go_wp2_with fail
  refine (hcl.out _ hfA.out).mono ?_
  rintro e w1 ⟨g, c, rfl, hf1, hown1⟩
  rw [hrl.out] at hown1 ⊢
  obtain ⟨-, hg1, hg2, -, hcell1⟩ := ownsRow_some hown1
  have hcnt : Cnt w1 g (R.map iv) := ⟨hg2, fun j u hu => hcell1 j u hu⟩
  have hgw : w.heap.size ≤ g := Nat.le_trans hfA.out.size hg1
  have hgs : w.heap.size + 2 ≤ g := by have h := hg1; simp at h; exact h
  have hfw := hfA.out.trans hf1
  have q3 := hf1.keep p3.out
  have q4 := hf1.keep p4.out
  clear hown1 hcell1 hg1 hg2 hcl hf1 p3 p4
  go_wp2_with fail
  go_loopg [21] n (fun k s21 wr => ∃ j : Nat, s21 = .int .i64 j ∧ j + k = n ∧ Cnt wr g ((sumL R (cs.take j) (XR.take j)).map iv) ∧ Fr w wr ∧ Hid (wr.cell? ⟨w.heap.size, 1, none⟩ = some (.slice aA n cA)))
  case atStart => exact ⟨0, rfl, by omega, by simpa [sumL] using hcnt, hfw, Lib.hid q3⟩
  case round =>
    clear hcnt hfw q3 q4
    obtain ⟨j, rfl, hjk, hcnt, hfw, hq⟩ := hrel
    by_cases hj : j < n
    · have hdJ : decide (j < n) = true := decide_eq_true hj
      obtain ⟨kb, ko, kk, rfl, hkb, hkj, hkc⟩ := (hcs.out.fr hfw).at (i := j) (by rw [← hnn.out]; exact hj)
      obtain ⟨yb, yo, y, rfl, hyb, hyj, hyc1, hyc2, hyel⟩ := hacc.out.at (i := j) (by rw [hlA.out]; exact hj)
      have hXj : XR[j]? = some y.row := by rw [hXR.out, List.getElem?_map, hyj]; rfl
      have hym : y.row ∈ A.map Sy.row := by rw [← hXR.out]; exact List.mem_of_getElem? hXj
      have hyl := hAr.out _ hym
      have hyf := hAf.out _ hym
      have hst := sumL_step R cs XR j kk y.row hkj hXj
      have hkf := fitB_bd (hfit.out kk (List.mem_of_getElem? hkj))
      have hRl := hln.out j
      have hRb := hbd.out j
      rw [List.length_take, Nat.min_eq_left (by rw [← hnn.out]; omega)] at hRb
      rw [hyl] at hyc2
      generalize sumL R (cs.take j) (XR.take j) = Rj at *
      generalize y.row = yr at *
      generalize y.ra = ra at *
      generalize y.rc = yrc at *
      have hzl : (addK kk Rj yr).length = Rj.length := addK_length (by rw [hyl, hRl])
      have hzg : ∀ (t : Nat) (a b : Int), Rj[t]? = some a → yr[t]? = some b → (addK kk Rj yr)[t]? = some (a + kk * b) := fun t a b h1 h2 => addK_get h1 h2
      generalize addK kk Rj yr = zs at *
      replace hst := Lib.hid hst
      replace hzg := Lib.hid hzg
      replace hRl := Lib.hid hRl
      replace hzl := Lib.hid hzl
      replace hyl := Lib.hid hyl
      replace hyel := Lib.hid hyel
      replace hyf := Lib.hid hyf
      replace hRb := Lib.hid hRb
      have hqq := hq.out
      replace hyc2 := hfw.keep hyc2
      clear hkj hyj hXj hym hyc1
      obtain ⟨wo, rfl⟩ : ∃ wo : World, wo = wr := ⟨_, rfl⟩
      obtain ⟨k0, rfl⟩ : ∃ k0 : Nat, k0 = gk := ⟨_, rfl⟩
      have y1 : (j : Int) < (n : Int) := by omega
      have y0 : (0 : Int) ≤ (j : Int) := by omega
      go_wp2_with fail
      go_loopg [33] d (fun k s33 wr2 => ∃ t : Nat, s33 = .int .i64 t ∧ t + k = d ∧ Cnt wr2 g ((zs.take t ++ Rj.drop t).map iv) ∧ Fr w wr2 ∧ Hid (wr2.cell? ⟨w.heap.size, 1, none⟩ = some (.slice (some ⟨yb, yo, none⟩) n cA)) ∧ Fx (· = g) wo wr2)
      case atStart => exact ⟨0, rfl, by omega, by simpa using hcnt, hfw, hq, Fx.refl _ _⟩
      case round =>
        clear hcnt hfw hq hqq
        obtain ⟨t, rfl, htk, hcnt, hfw, hq, hfx⟩ := hrel
        by_cases ht : t < d
        · have hdT : decide (t < d) = true := decide_eq_true ht
          obtain ⟨b2, o2, yy, rfl, hb2, hyt, hyc⟩ := (hyel.out.fr hfw).at (i := t) (by rw [hyl.out]; exact ht)
          obtain ⟨rr, hrt⟩ : ∃ rr, Rj[t]? = some rr := ⟨_, List.getElem?_eq_getElem (by rw [hRl.out]; exact ht)⟩
          have hzt := hzg.out t rr yy hrt hyt
          obtain ⟨cc1, cf1⟩ := hcnt.2 t (iv rr) (by rw [List.getElem?_map, mid_get zs Rj t hzl.out (by rw [hRl.out]; exact ht), hrt]; rfl)
          have hyb2 := fitB_bd (hyf.out yy (List.mem_of_getElem? hyt))
          have hrb2 := hRb.out rr (List.mem_of_getElem? hrt)
          have hmb := mul_e18 hkf hyb2
          have hset := Lib.hid (mid_set zs Rj t hzl.out (by rw [hRl.out]; exact ht) _ hzt)
          have hcn := Lib.hid hcnt
          clear hrt hzt hyt hcnt hyb2
          obtain ⟨m1, m2⟩ := hmb
          have s1 : -9223372036854775808 ≤ rr + kk * yy := by omega
          have s2 : rr + kk * yy ≤ 9223372036854775807 := by omega
          obtain ⟨r1, r2⟩ := hrb2
          have x1 : (t : Int) < (d : Int) := by omega
          have x0 : (0 : Int) ≤ (t : Int) := by omega
          go_wp2_with fail
          have hO := hcn.out.set t (by rw [List.length_map, List.length_append, List.length_take, List.length_drop, hzl.out, hRl.out]; omega) (iv (rr + kk * yy))
          rw [← List.map_set, hset.out] at hO
          have hF : Fx (· = g) wr (wr.setCell ⟨g, t, none⟩ (iv (rr + kk * yy))) := Fx.setCell (p := (· = g)) (q := ⟨g, t, none⟩) (Fx.refl _ wr) (.inl rfl) _
          go_roundg (gk - 1)
          case measure => omega
          case rel => exact ⟨t + 1, by go_num, by omega, hO, hfw.setCell (p := ⟨g, t, none⟩) hgw _, Lib.hid (hF.keep hq.out (fun e => by have e : w.heap.size = g := e; omega)), hfx.trans hF⟩
        · obtain rfl : t = d := by omega
          have hdT : decide (t < t) = false := decide_eq_false (by omega)
          have hcn : Cnt wr g (zs.map iv) := by
            rw [List.take_of_length_le (by rw [hzl.out, hRl.out]; omega), List.drop_of_length_le (by rw [hRl.out]; omega), List.append_nil] at hcnt
            exact hcnt
          rw [← hst.out] at hcn
          clear hcnt
          go_wp2_with fail
          go_roundg (k0 - 1)
          case measure => omega
          case rel => exact ⟨j + 1, by go_num, by omega, hcn, hfw, hq⟩
    · obtain rfl : j = n := by omega
      have hdJ : decide (j < j) = false := decide_eq_false (by omega)
      have hXl : XR.length = j := by rw [hXR.out, List.length_map, hlA.out]
      rw [List.take_of_length_le (by rw [← hnn.out]; exact Nat.le_refl _), List.take_of_length_le (by rw [hXl]; exact Nat.le_refl _)] at hcnt
      have hL := hln.out j
      rw [List.take_of_length_le (by rw [← hnn.out]; exact Nat.le_refl _), List.take_of_length_le (by rw [hXl]; exact Nat.le_refl _)] at hL
      clear hXl
      replace hL := Lib.hid hL
      go_wp2_with fail
      go_ret
      refine ⟨g, c, by rw [hL.out]; rfl, hgw, .inr ⟨g, 0, rfl, hcnt.1, fun q v hv => ?_⟩, hfw⟩
      rw [Nat.zero_add]
      exact (hcnt.2 q (iv v) (by rw [List.getElem?_map, hv]; rfl)).1
end Go.Proofs.YtbpfkmpkadimeaaGreatDoor

/- spelling.checkSpelling, open, Read, bound. -/
namespace Go.Proofs.YtbpfkmpkadimeaaGreatDoor
open Go.RowKit Go.Lib

/-- the error of a spelling -/
def spE (N A : List Sy) (i : Int) (cs : List Int) : Int := if i < 0 ∨ (N.length : Int) ≤ i then 10 else if cs.length ≠ A.length then 5 else rowE cs

set_option maxRecDepth 100000 in
set_option maxHeartbeats 1000000 in
theorem checkSpelling_any (aN aA : Option Addr) (cN cA : Nat) (N A : List Sy) (i : Int) (cs : List Int) (ca : Option Addr) (cc : Nat) (w : World) (hcs : El w iv ca cs) (hl : cs.length ≤ 1000000000) (_hN : N.length ≤ 1000000000) (_hA : A.length ≤ 1000000000) :
    Calls Tryz.prog 132 #[.agg #[.slice aN N.length cN, .slice aA A.length cA], .agg #[.int .i64 i, .slice ca cs.length cc]] w fun e w' => e = .returned (.int .i64 (spE N A i cs)) ∧ Fr w w' := by
  have hck := fun W (hW : Fr w W) => Check_row cs ca cc W (hcs.fr hW) hl
  replace hck := Lib.hid hck
  clear hcs
  have hf2 : Fr w ((w.alloc (.cells #[.slice aN N.length cN, .slice aA A.length cA] 31)).alloc (.cells #[.int .i64 i, .slice ca cs.length cc] 50)) := ((Fr.refl w).alloc _).alloc _
  replace hf2 := Lib.hid hf2
  by_cases h1 : i < 0
  · have hfin := Lib.hid (show spE N A i cs = 10 by unfold spE; rw [if_pos (.inl h1)])
    have d1 : decide (i < 0) = true := decide_eq_true h1
    go_enter Tryz.func132, Tryz.ntmps132
    go_wp2_with fail
    go_ret
    exact ⟨ret_int hfin.out.symm, hf2.out⟩
  · by_cases h2 : (N.length : Int) ≤ i
    · have hfin := Lib.hid (show spE N A i cs = 10 by unfold spE; rw [if_pos (.inr h2)])
      have d1 : decide (i < 0) = false := decide_eq_false h1
      have d2 : decide ((N.length : Int) ≤ i) = true := decide_eq_true h2
      go_enter Tryz.func132, Tryz.ntmps132
      go_wp2_with fail
      go_ret
      exact ⟨ret_int hfin.out.symm, hf2.out⟩
    · have d1 : decide (i < 0) = false := decide_eq_false h1
      have d2 : decide ((N.length : Int) ≤ i) = false := decide_eq_false h2
      by_cases h3 : cs.length = A.length
      · have hfin := Lib.hid (show spE N A i cs = rowE cs by unfold spE; rw [if_neg (by omega), if_neg (by rw [h3]; simp)])
        have q3 : ((cs.length : Int) != A.length) = false := by rw [h3]; simp
        replace h3 := Lib.hid h3
        go_enter Tryz.func132, Tryz.ntmps132
        go_wp2_with fail
        refine (hck.out _ hf2.out).mono ?_
        rintro e w3 ⟨rfl, hf3⟩
        go_wp2_with fail
        go_ret
        exact ⟨ret_int hfin.out.symm, hf2.out.trans hf3⟩
      · have hfin := Lib.hid (show spE N A i cs = 5 by unfold spE; rw [if_neg (by omega), if_pos h3])
        have q3 : ((cs.length : Int) != A.length) = true := by rw [bne_iff_ne]; omega
        replace h3 := Lib.hid h3
        go_enter Tryz.func132, Tryz.ntmps132
        go_wp2_with fail
        go_ret
        exact ⟨ret_int hfin.out.symm, hf2.out⟩

/-- a spelling, and where its counts lie -/
structure Sp where
  i : Int
  cs : List Int
  ca : Option Addr
  cc : Nat
def Sp.enc (x : Sp) : Value × Value := (.int .i64 x.i, .slice x.ca x.cs.length x.cc)
def Sps (w : World) (a : Option Addr) (xs : List Sp) : Prop := Prs w a (xs.map Sp.enc) ∧ ∀ x, x ∈ xs → El w iv x.ca x.cs
theorem Sps.fr {w w' : World} {a : Option Addr} {xs : List Sp} (h : Sps w a xs) (k : Fr w w') : Sps w' a xs := ⟨h.1.fr k, fun x hx => (h.2 x hx).fr k⟩
theorem Sps.at {w : World} {a : Option Addr} {xs : List Sp} (h : Sps w a xs) {i : Nat} (hi : i < xs.length) :
    ∃ b o x, a = some ⟨b, o, none⟩ ∧ b < w.heap.size ∧ xs[i]? = some x ∧ w.cell? ⟨b, o + i * 2, none⟩ = some (.int .i64 x.i) ∧ w.cell? ⟨b, o + i * 2 + 1, none⟩ = some (.slice x.ca x.cs.length x.cc) ∧ El w iv x.ca x.cs := by
  obtain ⟨b, o, z, ha, hb, hz, hc, hc2⟩ := h.1.at (i := i) (by rw [List.length_map]; exact hi)
  rw [List.getElem?_map, List.getElem?_eq_getElem hi] at hz
  injection hz with hz
  subst hz
  exact ⟨b, o, xs[i], ha, hb, List.getElem?_eq_getElem hi, hc, hc2, h.2 _ (List.getElem_mem hi)⟩

/-- the first error of spellings -/
def spsE (N A : List Sy) : List Sp → Int
  | [] => 0
  | x :: l => if spE N A x.i x.cs = 0 then spsE N A l else spE N A x.i x.cs

set_option maxRecDepth 100000 in
set_option maxHeartbeats 4000000 in
theorem open_any (d : Nat) (aN aA : Option Addr) (cN cA : Nat) (N A : List Sy) (xs : List Sp) (a : Option Addr) (c : Nat) (w : World) (hn : NotIs w aN aA cA N A) (hok : NotOk d N A) (hx : Sps w a xs) (hl : xs.length ≤ 1000000) (hls : ∀ x, x ∈ xs → x.cs.length ≤ 1000000000) :
    Calls Tryz.prog 63 #[.agg #[.slice aN N.length cN, .slice aA A.length cA], .slice a xs.length c] w fun e w' => e = .returned (.int .i64 (spsE N A xs)) ∧ Fr w w' := by
  have hn60 := hok.n60
  have ha6 := hok.a6
  have hck := fun W (hW : Fr w W) => SCheck_ok d aN aA cN cA N A W (hn.fr hW) hok
  have hcs := fun (x : Sp) W (hW : Fr w W) (hm : x ∈ xs) => checkSpelling_any aN aA cN cA N A x.i x.cs x.ca x.cc W ((hx.2 x hm).fr hW) (hls x hm) (by omega) (by omega)
  obtain ⟨n, hnn⟩ : ∃ n, n = xs.length := ⟨_, rfl⟩
  rw [← hnn] at hl ⊢
  replace hck := Lib.hid hck
  replace hcs := Lib.hid hcs
  replace hx := Lib.hid hx
  replace hnn := Lib.hid hnn
  replace hls := Lib.hid hls
  clear hn hok
  have hfA : Fr w (w.alloc (.cells #[.slice aN N.length cN, .slice aA A.length cA] 31)) := (Fr.refl w).alloc _
  have p1 := new2a w (.slice aN N.length cN) (.slice aA A.length cA) 31
  have p2 := new2b w (.slice aN N.length cN) (.slice aA A.length cA) 31
  replace hfA := Lib.hid hfA
  replace p1 := Lib.hid p1.1
  replace p2 := Lib.hid p2.1
  go_enter Tryz.func63, Tryz.ntmps63
  go_wp2_with fail
  refine (hck.out _ hfA.out).mono ?_
  rintro e w1 ⟨rfl, hf1⟩
  have hfw := hfA.out.trans hf1
  have q1 := hf1.keep p1.out
  have q2 := hf1.keep p2.out
  clear hck p1 p2 hfA hf1
  go_wp2_with fail
  go_loopg [16] n (fun k s16 wr => ∃ j : Nat, s16 = .int .i64 j ∧ j + k = n ∧ Fr w1 wr ∧ Hid (spsE N A xs = spsE N A (xs.drop j)))
  case atStart => exact ⟨0, rfl, by omega, Fr.refl _, Lib.hid (by simp)⟩
  case round =>
    obtain ⟨j, rfl, hjk, hf, he⟩ := hrel
    by_cases hj : j < n
    · have hdJ : decide (j < n) = true := decide_eq_true hj
      obtain ⟨b, o, x, rfl, hb, hxj, hc1, hc2, -⟩ := (hx.out.fr (hfw.trans hf)).at (i := j) (by rw [← hnn.out]; exact hj)
      have hsp := hcs.out x (wr.alloc (.cells #[.int .i64 x.i, .slice x.ca x.cs.length x.cc] 50)) ((hfw.trans hf).alloc _) (List.mem_of_getElem? hxj)
      have hdx : xs.drop j = x :: xs.drop (j + 1) := by
        rw [List.drop_eq_getElem_cons (by rw [← hnn.out]; exact hj), (List.getElem?_eq_some_iff.1 hxj).2]
      rw [hdx, spsE] at he
      have r1 := hf.keep q1
      have r2 := hf.keep q2
      have r3 := ((Fr.refl wr).alloc (.cells #[.int .i64 x.i, .slice x.ca x.cs.length x.cc] 50)).keep r1
      have r4 := ((Fr.refl wr).alloc (.cells #[.int .i64 x.i, .slice x.ca x.cs.length x.cc] 50)).keep r2
      clear r1 r2
      clear hxj hdx
      generalize x.i = xi at *
      generalize x.cs.length = xl at *
      generalize x.ca = xa at *
      generalize x.cc = xc at *
      generalize x.cs = xcs at *
      generalize spE N A xi xcs = ee at *
      replace hsp := Lib.hid hsp
      have y1 : (j : Int) < (n : Int) := by omega
      have y0 : (0 : Int) ≤ (j : Int) := by omega
      by_cases h0 : ee = 0
      · subst h0
        have he := Lib.hid (show spsE N A xs = spsE N A (xs.drop (j + 1)) by have h := he.out; simpa using h)
        rename_i he0
        clear he0
        go_wp2_with fail
        refine hsp.out.mono ?_
        rintro e w3 ⟨rfl, hf3⟩
        go_wp2_with fail
        go_roundg (gk - 1)
        case measure => omega
        case rel => exact ⟨j + 1, by go_num, by omega, (hf.alloc _).trans hf3, he⟩
      · have hq : (ee != 0) = true := by rw [bne_iff_ne]; exact h0
        have hfin := Lib.hid (show spsE N A xs = ee by have h := he.out; rw [if_neg h0] at h; exact h)
        clear he
        go_wp2_with fail
        refine hsp.out.mono ?_
        rintro e w3 ⟨rfl, hf3⟩
        go_wp2_with fail
        go_ret
        exact ⟨ret_int hfin.out.symm, hfw.trans ((hf.alloc _).trans hf3)⟩
    · obtain rfl : j = n := by omega
      have hdJ : decide (j < j) = false := decide_eq_false (by omega)
      have hfin := Lib.hid (show spsE N A xs = 0 by
        have h := he.out
        rw [List.drop_of_length_le (by rw [← hnn.out]; exact Nat.le_refl _)] at h
        exact h)
      clear he
      go_wp2_with fail
      go_ret
      exact ⟨ret_int hfin.out.symm, hfw.trans hf⟩
end Go.Proofs.YtbpfkmpkadimeaaGreatDoor
