/- schismalaw43: example, known. -/
import Derived.Test.YtphjfalibnnohaaGreatDoorNot
namespace Go.Proofs.YtphjfalibnnohaaGreatDoor
open Go.RowKit Go.Lib

def plainSy (x : Sy) : ByteArray × List Int := (x.nm, x.row)
def NotRet (w : World) (Ns As : List (ByteArray × List Int)) (e : Ending) (w' : World) : Prop := ∃ aN aA cN cA N A, e = .returned (.agg #[.slice aN N.length cN, .slice aA A.length cA]) ∧ NotIs w' aN aA cA N A ∧ N.map plainSy = Ns ∧ A.map plainSy = As ∧ Fr w w'

/-- blocks laid one after another -/
def alls (w : World) : List Obj → World
  | [] => w
  | o :: l => alls (w.alloc o) l
theorem alls_size : ∀ (l : List Obj) (w : World), w.heap.size ≤ (alls w l).heap.size
  | [], w => Nat.le_refl _
  | o :: l, w => by have := alls_size l (w.alloc o); rw [World.size_alloc] at this; rw [alls]; omega
theorem alls_old : ∀ (l : List Obj) (w : World) (k : Nat), k < w.heap.size → (alls w l).heap[k]? = w.heap[k]?
  | [], w, k, _ => rfl
  | o :: l, w, k, h => by rw [alls, alls_old l _ k (by simp; omega)]; exact Below.heap_alloc _ _ _ h
theorem alls_get : ∀ (l : List Obj) (w : World) (i : Nat) (o : Obj), l[i]? = some o → (alls w l).heap[w.heap.size + i]? = some o
  | [], w, i, o, h => by simp at h
  | x :: l, w, 0, o, h => by
    simp at h; subst h
    rw [alls, Nat.add_zero, alls_old l _ _ (by simp)]
    exact heap_alloc_new w _
  | x :: l, w, i + 1, o, h => by
    have := alls_get l (w.alloc x) i o (by simpa using h)
    rw [World.size_alloc] at this
    rw [alls, show w.heap.size + (i + 1) = w.heap.size + 1 + i by omega]
    exact this
theorem alls_fr : ∀ (l : List Obj) (w : World), Fr w (alls w l)
  | [], w => Fr.refl w
  | o :: l, w => ((Fr.refl w).alloc o).trans (alls_fr l (w.alloc o))
theorem cells_of {W : World} {b : Nat} {cs : Array Value} {t : TypeId} (h : W.heap[b]? = some (.cells cs t (0, 0))) (i : Nat) : W.cell? ⟨b, i, none⟩ = cs[i]? := by
  unfold World.cell?; rw [h]; rfl
theorem lt_of_heap {W : World} {b : Nat} {o : Obj} (h : W.heap[b]? = some o) : b < W.heap.size := (Array.getElem?_eq_some_iff.1 h).1
/-- a row of one int in a block -/
theorem El.one {W : World} {b : Nat} {x : Int} {t : TypeId} (h : W.heap[b]? = some (.cells #[.int .i64 x] t (0, 0))) : El W iv (some ⟨b, 0, none⟩) [x] :=
  .inr ⟨b, 0, rfl, lt_of_heap h, fun i y hy => by
    match i, hy with
    | 0, hy => simp at hy; subst hy; rw [cells_of h]; rfl
    | i + 1, hy => simp at hy⟩
/-- two symbols in a block -/
theorem Syms.two {W : World} {b : Nat} {x y : Sy} {t : TypeId} (h : W.heap[b]? = some (.cells #[x.enc.1, x.enc.2, y.enc.1, y.enc.2] t (0, 0))) (h1 : El W iv x.ra x.row) (h2 : El W iv y.ra y.row) : Syms W (some ⟨b, 0, none⟩) [x, y] := by
  refine ⟨.inr ⟨b, 0, rfl, lt_of_heap h, fun i z hz => ?_⟩, fun z hz => ?_⟩
  · match i, hz with
    | 0, hz => simp at hz; subst hz; rw [cells_of h, cells_of h]; exact ⟨rfl, rfl⟩
    | 1, hz => simp at hz; subst hz; rw [cells_of h, cells_of h]; exact ⟨rfl, rfl⟩
    | i + 2, hz => simp at hz
  · simp at hz
    rcases hz with rfl | rfl
    · exact h1
    · exact h2

set_option maxRecDepth 100000 in
set_option maxHeartbeats 1000000 in
theorem example_any (w : World) : Calls Tryz.prog 34 #[] w (NotRet w [(⟨#[65]⟩, [0]), (⟨#[66]⟩, [2])] [(⟨#[35]⟩, [1]), (⟨#[98]⟩, [-1])]) := by
  go_enter Tryz.func34, Tryz.ntmps34
  go_wp2_with fail
  obtain ⟨W, hW⟩ : ∃ W, W = alls w [(.cells #[.slice (some ⟨w.heap.size + 1 + 1 + 1, 0, none⟩) 2 2, .slice (some ⟨w.heap.size + 1 + 1 + 1 + 1 + 1 + 1, 0, none⟩) 2 2] 30), (.cells #[.int .i64 0] 3), (.cells #[.int .i64 2] 3), (.cells #[.string ⟨#[65]⟩, .slice (some ⟨w.heap.size + 1, 0, none⟩) 1 1, .string ⟨#[66]⟩, .slice (some ⟨w.heap.size + 1 + 1, 0, none⟩) 1 1] 35), (.cells #[.int .i64 1] 3), (.cells #[.int .i64 (-1)] 3), (.cells #[.string ⟨#[35]⟩, .slice (some ⟨w.heap.size + 1 + 1 + 1 + 1, 0, none⟩) 1 1, .string ⟨#[98]⟩, .slice (some ⟨w.heap.size + 1 + 1 + 1 + 1 + 1, 0, none⟩) 1 1] 35)] := ⟨_, rfl⟩
  have hF : Fr w W := by rw [hW]; exact alls_fr _ w
  have h0 : W.heap[w.heap.size]? = some (.cells #[.slice (some ⟨w.heap.size + 1 + 1 + 1, 0, none⟩) 2 2, .slice (some ⟨w.heap.size + 1 + 1 + 1 + 1 + 1 + 1, 0, none⟩) 2 2] 30) := by rw [hW]; exact alls_get _ w 0 _ rfl
  have h1 : W.heap[w.heap.size + 1]? = some (.cells #[.int .i64 0] 3) := by rw [hW]; exact alls_get _ w 1 _ rfl
  have h2 : W.heap[w.heap.size + 1 + 1]? = some (.cells #[.int .i64 2] 3) := by rw [hW]; exact alls_get _ w 2 _ rfl
  have h3 : W.heap[w.heap.size + 1 + 1 + 1]? = some (.cells #[.string ⟨#[65]⟩, .slice (some ⟨w.heap.size + 1, 0, none⟩) 1 1, .string ⟨#[66]⟩, .slice (some ⟨w.heap.size + 1 + 1, 0, none⟩) 1 1] 35) := by rw [hW]; exact alls_get _ w 3 _ rfl
  have h4 : W.heap[w.heap.size + 1 + 1 + 1 + 1]? = some (.cells #[.int .i64 1] 3) := by rw [hW]; exact alls_get _ w 4 _ rfl
  have h5 : W.heap[w.heap.size + 1 + 1 + 1 + 1 + 1]? = some (.cells #[.int .i64 (-1)] 3) := by rw [hW]; exact alls_get _ w 5 _ rfl
  have h6 : W.heap[w.heap.size + 1 + 1 + 1 + 1 + 1 + 1]? = some (.cells #[.string ⟨#[35]⟩, .slice (some ⟨w.heap.size + 1 + 1 + 1 + 1, 0, none⟩) 1 1, .string ⟨#[98]⟩, .slice (some ⟨w.heap.size + 1 + 1 + 1 + 1 + 1, 0, none⟩) 1 1] 35) := by rw [hW]; exact alls_get _ w 6 _ rfl
  show bodyPost _ _ _ _ _ (alls w [(.cells #[.slice (some ⟨w.heap.size + 1 + 1 + 1, 0, none⟩) 2 2, .slice (some ⟨w.heap.size + 1 + 1 + 1 + 1 + 1 + 1, 0, none⟩) 2 2] 30), (.cells #[.int .i64 0] 3), (.cells #[.int .i64 2] 3), (.cells #[.string ⟨#[65]⟩, .slice (some ⟨w.heap.size + 1, 0, none⟩) 1 1, .string ⟨#[66]⟩, .slice (some ⟨w.heap.size + 1 + 1, 0, none⟩) 1 1] 35), (.cells #[.int .i64 1] 3), (.cells #[.int .i64 (-1)] 3), (.cells #[.string ⟨#[35]⟩, .slice (some ⟨w.heap.size + 1 + 1 + 1 + 1, 0, none⟩) 1 1, .string ⟨#[98]⟩, .slice (some ⟨w.heap.size + 1 + 1 + 1 + 1 + 1, 0, none⟩) 1 1] 35)])
  rw [← hW]
  clear hW
  have c0 := cells_of h0 0
  have c1 := cells_of h0 1
  refine bodyPost_ret (v := .agg #[.slice (some ⟨w.heap.size + 1 + 1 + 1, 0, none⟩) 2 2, .slice (some ⟨w.heap.size + 1 + 1 + 1 + 1 + 1 + 1, 0, none⟩) 2 2]) (by simp [results, Tryz.results34, go_sem, c0, c1]) rfl ?_
  exact ⟨_, _, 2, 2, [⟨⟨#[65]⟩, [0], some ⟨w.heap.size + 1, 0, none⟩, 1⟩, ⟨⟨#[66]⟩, [2], some ⟨w.heap.size + 1 + 1, 0, none⟩, 1⟩], [⟨⟨#[35]⟩, [1], some ⟨w.heap.size + 1 + 1 + 1 + 1, 0, none⟩, 1⟩, ⟨⟨#[98]⟩, [-1], some ⟨w.heap.size + 1 + 1 + 1 + 1 + 1, 0, none⟩, 1⟩], rfl,
    ⟨Syms.two h3 (El.one h1) (El.one h2), Syms.two h6 (El.one h4) (El.one h5), fun e => by cases e⟩, rfl, rfl, hF⟩
end Go.Proofs.YtphjfalibnnohaaGreatDoor
