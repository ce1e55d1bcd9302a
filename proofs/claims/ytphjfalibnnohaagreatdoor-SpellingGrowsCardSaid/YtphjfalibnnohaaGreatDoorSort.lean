/- slices.SortFunc of spellings by spelling.order. -/
import Derived.Test.YtphjfalibnnohaaGreatDoorOrder2
import Derived.Test.YtphjfalibnnohaaGreatDoorConcat
import Derived.Test.YtphjfalibnnohaaGreatDoorLaysSort
import Derived.Shelf.SlSortCmp.NoneTotal
namespace Go.Proofs.YtphjfalibnnohaaGreatDoor
open Go.RowKit Go.Lib Go.Sort

theorem flatK_flat2 {α : Type} [Inhabited α] (f : α → Value × Value) (d : Array α) : (flatK (fun x => [(f x).1, (f x).2]) 2 d).toList = flat2 (d.toList.map f) := by
  apply List.ext_getElem?
  intro t
  rw [Array.getElem?_toList]
  by_cases ht : t < d.size * 2
  · have hi : t / 2 < d.size := by omega
    have h1 : (flatK (fun x => [(f x).1, (f x).2]) 2 d)[t]? = some (([(f d[t / 2]!).1, (f d[t / 2]!).2])[t % 2]!) := by
      have h2 := get_flatK (fun x => [(f x).1, (f x).2]) 2 d t ht
      rw [← h2]
      have hs : t < (flatK (fun x => [(f x).1, (f x).2]) 2 d).size := by rw [size_flatK]; exact ht
      rw [Array.getElem?_eq_getElem hs, getElem!_pos _ t hs]
    rw [h1]
    have hx : (d.toList.map f)[t / 2]? = some (f d[t / 2]!) := by
      rw [List.getElem?_map, Array.getElem?_toList, Array.getElem?_eq_getElem hi, getElem!_pos d _ hi]; rfl
    obtain ⟨g1, g2⟩ := flat2_get _ _ _ hx
    rcases Nat.mod_two_eq_zero_or_one t with h | h
    · rw [h, show t = t / 2 * 2 by omega, g1, show t / 2 * 2 / 2 = t / 2 by omega]; rfl
    · rw [h, show t = t / 2 * 2 + 1 by omega, g2, show (t / 2 * 2 + 1) / 2 = t / 2 by omega]; rfl
  · rw [Array.getElem?_eq_none (by rw [size_flatK]; omega), List.getElem?_eq_none (by rw [flat2_length, List.length_map]; simp; omega)]

theorem heap_put {w : World} {g n : Nat} {os : Array Obj} {cur : Array Value} {e : TypeId} {fr : Nat × Nat} (d : Array Value) (hb : w.heap[g]? = some (.cells cur e fr)) :
    (grow (putRow id (Sort.ahead w n) g 0 d) os).heap[g]? = some (.cells (putCells id 0 d cur) e fr) := by
  have hg : g < w.heap.size := (Array.getElem?_eq_some_iff.1 hb).1
  rw [heap_grow_old _ _ (by simpa using hg)]
  simp [putRow, mapBlock, Sort.ahead, Array.getElem?_modify, hb, onCells]
theorem fx_put {w : World} {g n : Nat} {os : Array Obj} (d : Array Value) : Fx (· = g) w (grow (putRow id (Sort.ahead w n) g 0 d) os) := by
  refine ⟨rfl, rfl, rfl, by simp, fun k hk hne => ?_⟩
  rw [heap_grow_old _ _ (by simpa using hk)]
  have : g ≠ k := fun e => hne e.symm
  simp [putRow, mapBlock, Sort.ahead, Array.getElem?_modify, this]
theorem take_put (cur F : Array Value) (h : F.size ≤ cur.size) : (putCells id 0 F cur).toList.take F.size = F.toList := by
  apply List.ext_getElem?
  intro j
  by_cases hj : j < F.size
  · rw [List.getElem?_take_of_lt hj, Array.getElem?_toList, Array.getElem?_toList]
    simp [putCells, hj, show j < cur.size by omega]
  · rw [List.getElem?_take_eq_none (by omega), Array.getElem?_toList, Array.getElem?_eq_none (by omega)]
theorem ownsRow_put {w : World} {base g cap n m size : Nat} {e : TypeId} {os : Array Obj} {xs ys : List Value} (h : w.ownsRow base e size (.slice (some ⟨g, 0, none⟩) m cap) m xs) (hl : ys.length = xs.length) :
    (grow (putRow id (Sort.ahead w n) g 0 ys.toArray) os).ownsRow base e size (.slice (some ⟨g, 0, none⟩) m cap) m ys := by
  obtain ⟨h1, h2⟩ := h
  rcases h2 with ⟨h2, _⟩ | ⟨g', cap', cur, hv, hg, hh, hn, hc, hs, ht⟩
  · cases h2
  · injection hv with hv1 hv2 hv3
    injection hv1 with hv1; injection hv1 with hv1
    subst hv1; subst hv3
    have hsz : ys.toArray.size ≤ cur.size := by
      rw [List.size_toArray, hl, h1, hs]; exact Nat.mul_le_mul_right _ hn
    refine ⟨by rw [hl, h1], .inr ⟨g, cap, _, rfl, hg, heap_put _ hh, hn, hc, by simp [putCells, hs], ?_⟩⟩
    have := take_put cur ys.toArray hsz
    rw [List.size_toArray, hl, h1] at this
    exact this

def BX.enc2 (x : BX) : Value × Value := (.int .i64 x.i, .slice (some ⟨x.g, 0, none⟩) x.cs.length x.c)
theorem BX.one (l : List BX) : ∀ z, z ∈ l.map BX.enc2 → z.1.oneCell' = true ∧ z.2.oneCell' = true := fun z hz => by
  obtain ⟨x, -, rfl⟩ := List.mem_map.1 hz
  exact ⟨rfl, rfl⟩
def cfB (x y : BX) : Int := ordS (stI (stripX x)) (stI (stripX y))

theorem enters_order : ∀ args w, (callFunc 45 args).run Tryz.prog w = .ok (.enter 45 args) w := enters_of Tryz.func45 (by kernel_rfl) rfl

set_option maxRecDepth 100000 in
set_option maxHeartbeats 1000000 in
theorem SortFunc_sp (base g cap : Nat) (K : List BX) (W : World) (hown : W.ownsRow base 42 2 (.slice (some ⟨g, 0, none⟩) K.length cap) K.length (flat2 (K.map BX.enc2))) (hrow : ∀ x, x ∈ K → RowAt W x) (hnd : (K.map stripX).Nodup)
    (hl : ∀ x, x ∈ K → x.cs.length ≤ 64) (hf : ∀ x, x ∈ K → ∀ c, c ∈ x.cs → fitB c = true) (hK : K ≠ []) (hK2 : K.length ≤ 1000001) :
    Calls Tryz.prog 47 #[.slice (some ⟨g, 0, none⟩) K.length cap, .func (.func 45) #[] #[]] W fun e W' => e = .returned (.tuple #[]) ∧
      ∃ K' : List BX, K'.map stripX = sortS (K.map stripX) ∧ K'.Perm K ∧ Fx (· = g) W W' ∧ W'.ownsRow base 42 2 (.slice (some ⟨g, 0, none⟩) K.length cap) K.length (flat2 (K'.map BX.enc2)) := by
  obtain ⟨x0, hx0⟩ : ∃ x0, x0 ∈ K := by
    cases K with
    | nil => exact absurd rfl hK
    | cons x l => exact ⟨x, List.mem_cons_self ..⟩
  haveI : Inhabited { x : BX // x ∈ K } := ⟨⟨x0, hx0⟩⟩
  obtain ⟨-, -, hgl, -, hcells⟩ := ownsRow_some hown
  have hfl : ∀ (d : Array { x : BX // x ∈ K }), (flatK (fun x : { x : BX // x ∈ K } => [x.1.enc2.1, x.1.enc2.2]) 2 d).toList = flat2 (d.toList.map fun x => x.1.enc2) := fun d => flatK_flat2 (fun x : { x : BX // x ∈ K } => x.1.enc2) d
  have hat : (K.attach.toArray.toList.map fun x => x.1.enc2) = K.map BX.enc2 := by
    have : (fun x : { x : BX // x ∈ K } => x.1.enc2) = BX.enc2 ∘ Subtype.val := rfl
    rw [this, ← List.map_map, List.attach_map_subtype_val]
  have hH : HoldsK (fun x : { x : BX // x ∈ K } => [x.1.enc2.1, x.1.enc2.2]) 2 W g 0 K.attach.toArray := by
    intro j hj
    have h1 := hfl K.attach.toArray
    rw [hat] at h1
    have h2 : (flat2 (K.map BX.enc2))[j]? = some (flatK (fun x : { x : BX // x ∈ K } => [x.1.enc2.1, x.1.enc2.2]) 2 K.attach.toArray)[j]! := by
      rw [← h1, Array.getElem?_toList, Array.getElem?_eq_getElem hj, getElem!_pos _ j hj]
    have h3 := hcells j _ h2
    rw [Nat.zero_add]
    exact h3
  have hcmp : CmpLays Tryz.prog 45 #[] (fun x : { x : BX // x ∈ K } => [x.1.enc2.1, x.1.enc2.2]) 2 (fun x y => cfB x.1 y.1) g 0 K.attach.toArray.size W := fun m os dk hs x y => by
    have hfx : Fx (· = g) W (sortWorldK (fun x : { x : BX // x ∈ K } => [x.1.enc2.1, x.1.enc2.2]) 2 W g 0 m dk os) := fx_put _
    have hel : ∀ z : BX, z ∈ K → El (sortWorldK (fun x : { x : BX // x ∈ K } => [x.1.enc2.1, x.1.enc2.2]) 2 W g 0 m dk os) iv (some ⟨z.g, 0, none⟩) z.cs := fun z hz => (hrow z hz).2.fx hfx (fun e => by
      have := (hrow z hz).ne hown
      exact this (by simp [Value.ownBlock, show z.g = g from e]))
    exact order_any (stI (stripX x.1)) (stI (stripX y.1)) (some ⟨x.1.g, 0, none⟩) (some ⟨y.1.g, 0, none⟩) x.1.c y.1.c _ (hel x.1 x.2) (hel y.1 y.2) (hl x.1 x.2) (hl y.1 y.2) (hf x.1 x.2) (hf y.1 y.2)
  have hO : SWO (ltOf fun x y : { x : BX // x ∈ K } => cfB x.1 y.1) := ⟨fun x => swoS.irrefl _, fun x y z => swoS.trans _ _ _, fun x y z => swoS.ntrans _ _ _⟩
  have hinj : ∀ x y : { x : BX // x ∈ K }, stripX x.1 = stripX y.1 → x = y := fun x y e => by
    obtain ⟨x, hx⟩ := x; obtain ⟨y, hy⟩ := y
    obtain ⟨i, hi⟩ := List.getElem?_of_mem hx
    obtain ⟨j, hj⟩ := List.getElem?_of_mem hy
    have e2 : (K.map stripX)[i]? = (K.map stripX)[j]? := by rw [List.getElem?_map, List.getElem?_map, hi, hj]; simp only [Option.map_some]; rw [e]
    have hij := (List.getElem?_inj (by rw [List.length_map]; exact (List.getElem?_eq_some_iff.1 hi).1) hnd).1 e2
    subst hij
    rw [hi] at hj
    injection hj with hj
    subst hj; rfl
  have hT : ∀ x y : { x : BX // x ∈ K }, (ltOf fun x y : { x : BX // x ∈ K } => cfB x.1 y.1) x y = false → (ltOf fun x y : { x : BX // x ∈ K } => cfB x.1 y.1) y x = false → x = y := fun x y h1 h2 => by
    unfold ltOf cfB at *
    have a : ¬ ordS (stI (stripX x.1)) (stI (stripX y.1)) < 0 := of_decide_eq_false h1
    have b : ¬ ordS (stI (stripX y.1)) (stI (stripX x.1)) < 0 := of_decide_eq_false h2
    have c := ordS_neg (stI (stripX x.1)) (stI (stripX y.1))
    exact hinj x y (stI_inj (ordS_eq (by omega)))
  have hcon := AnyQ.slices_SortFunc_total Tryz.sortSp 2 Tryz.isAgg42 Tryz.sizeOf42 (fun x : { x : BX // x ∈ K } => [x.1.enc2.1, x.1.enc2.2]) (fun _ => rfl) (fun x v hv => by
    simp at hv; rcases hv with rfl | rfl <;> rfl) (fun x y => cfB x.1 y.1) hO 45 #[] g 0 cap K.attach.toArray W enters_order hcmp hH hgl (by rw [List.size_toArray, List.length_attach]; omega) hT
  rw [show K.attach.toArray.size = K.length by simp] at hcon
  refine hcon.mono ?_
  rintro e W' ⟨rfl, n, os, rfl⟩
  obtain ⟨D, hD⟩ : ∃ D, D = (K.attach.mergeSort fun x y => !(ltOf fun x y : { x : BX // x ∈ K } => cfB x.1 y.1) y x) := ⟨_, rfl⟩
  have hDp : D.Perm K.attach := by rw [hD]; exact List.mergeSort_perm _ _
  refine ⟨rfl, D.map Subtype.val, ?_, ?_, fx_put _, ?_⟩
  · refine sortS_eq ?_ ?_
    · rw [List.map_map, List.pairwise_map, hD]
      exact List.pairwise_mergeSort (le := fun x y => !(ltOf fun x y : { x : BX // x ∈ K } => cfB x.1 y.1) y x) (fun a b c h k => leS_trans (stripX a.1) (stripX b.1) (stripX c.1) h k) (fun a b => leS_total (stripX a.1) (stripX b.1)) _
    · have := (hDp.map Subtype.val).map stripX
      rwa [List.attach_map_subtype_val] at this
  · have := hDp.map Subtype.val
    rwa [List.attach_map_subtype_val] at this
  · have h1 := hfl D.toArray
    have h2 : D.toArray.toList.map (fun x => x.1.enc2) = (D.map Subtype.val).map BX.enc2 := by rw [List.map_map]; rfl
    rw [h2] at h1
    have h3 := ownsRow_put (n := n) (os := os) (ys := flat2 ((D.map Subtype.val).map BX.enc2)) hown (by rw [flat2_length, flat2_length, List.length_map, List.length_map, List.length_map, hDp.length_eq, List.length_attach])
    rw [← h1] at h3
    simp only [Array.toArray_toList] at h3
    rw [hfl] at h3
    rw [h2] at h3
    rw [hD] at h3 ⊢
    exact h3
end Go.Proofs.YtphjfalibnnohaaGreatDoor
