/-
  Contracts and laws for the statements of the seat, QB.
-/
import Derived.Test.YtamffndlpminmaaGreatDoorQA
import Derived.Test.YtamffndlpminmaaGreatDoorLaysGrow
import Derived.Laws.AppendOwnNone
import Derived.Deep.QuietTactic
import Derived.BigQuiet
import Derived.RangeFuncNested
import Derived.RangeFuncBound
import Derived.RangeFuncCalls
import Derived.RangeFuncLeaves
import Derived.Shelf.RegionOpen
import Derived.OwnWalkIn
import Derived.TacticsInMore
import Derived.LoopNIn
import Derived.LoopIn
import Derived.Shelf.SlSortCmp.Insertion
import Derived.Maps.AppendAt
import Derived.Laws.CopyOwn
import Derived.Laws.MakeOwn
import Derived.OwnWalk
import Derived.Deep.RegionHeld3
import Derived.Deep.RegionLaw
import Derived.Shelf.SlicesE.Clone
import Derived.Sort.LoopGhostIn
import Derived.Sort.QuietIn

/- slices.Concat of two slices of symbols. -/
namespace Go.Proofs.YtamffndlpminmaaGreatDoor
open Go.RowKit Go.Lib

/-- the cells of pairs, one behind another -/
def flat2 : List (Value × Value) → List Value
  | [] => []
  | x :: l => x.1 :: x.2 :: flat2 l
theorem flat2_length (l : List (Value × Value)) : (flat2 l).length = l.length * 2 := by
  induction l with
  | nil => rfl
  | cons x l ih => simp [flat2, ih]; omega
theorem flat2_append (l m : List (Value × Value)) : flat2 (l ++ m) = flat2 l ++ flat2 m := by
  induction l with
  | nil => rfl
  | cons x l ih => simp [flat2, ih]
theorem flat2_get : ∀ (l : List (Value × Value)) (i : Nat) (x : Value × Value), l[i]? = some x → (flat2 l)[i * 2]? = some x.1 ∧ (flat2 l)[i * 2 + 1]? = some x.2
  | [], i, x, h => by simp at h
  | y :: l, 0, x, h => by simp at h; subst h; simp [flat2]
  | y :: l, i + 1, x, h => by
    have := flat2_get l i x (by simpa using h)
    have e : (i + 1) * 2 = i * 2 + 1 + 1 := by omega
    rw [e]
    simpa [flat2] using this
theorem flat2_of : ∀ (l : List (Value × Value)) (j : Nat) (u : Value), (flat2 l)[j]? = some u → ∃ i x, l[i]? = some x ∧ ((j = i * 2 ∧ u = x.1) ∨ (j = i * 2 + 1 ∧ u = x.2))
  | [], j, u, h => by simp [flat2] at h
  | y :: l, 0, u, h => by simp [flat2] at h; exact ⟨0, y, rfl, .inl ⟨rfl, h.symm⟩⟩
  | y :: l, 1, u, h => by simp [flat2] at h; exact ⟨0, y, rfl, .inr ⟨rfl, h.symm⟩⟩
  | y :: l, j + 2, u, h => by
    simp [flat2] at h
    obtain ⟨i, x, hx, h⟩ := flat2_of l j u h
    refine ⟨i + 1, x, by simpa using hx, ?_⟩
    rcases h with ⟨h1, h2⟩ | ⟨h1, h2⟩
    · exact .inl ⟨by omega, h2⟩
    · exact .inr ⟨by omega, h2⟩
theorem flat2_one {l : List (Value × Value)} (h : ∀ z, z ∈ l → z.1.oneCell' = true ∧ z.2.oneCell' = true) : ∀ u, u ∈ flat2 l → u.oneCell' = true := fun u hu => by
  obtain ⟨j, hj⟩ := List.getElem?_of_mem hu
  obtain ⟨i, x, hx, h2⟩ := flat2_of l j u hj
  have := h x (List.mem_of_getElem? hx)
  rcases h2 with ⟨_, rfl⟩ | ⟨_, rfl⟩
  · exact this.1
  · exact this.2
theorem Prs.cells {w : World} {b o : Nat} {xs : List (Value × Value)} (h : Prs w (some ⟨b, o, none⟩) xs) : ∀ j u, (flat2 xs)[j]? = some u → w.cell? ((⟨b, o, none⟩ : Addr).add j) = some u := fun j u hu => by
  obtain ⟨i, x, hx, h2⟩ := flat2_of xs j u hu
  have e : (⟨b, o, none⟩ : Addr).add j = ⟨b, o + j, none⟩ := by
    unfold Addr.add
    split
    · rename_i e; rw [e]; rfl
    · rfl
  rw [e]
  rcases h with h | ⟨b', o', ha, hb, hc⟩
  · subst h; simp at hx
  · injection ha with ha; injection ha with h3 h4
    subst h3; subst h4
    have := hc i x hx
    rcases h2 with ⟨rfl, rfl⟩ | ⟨rfl, rfl⟩
    · exact this.1
    · rw [← Nat.add_assoc]; exact this.2
theorem Prs.addr {w : World} {a : Option Addr} {xs : List (Value × Value)} (h : Prs w a xs) (hp : 0 < xs.length) : ∃ b o, a = some ⟨b, o, none⟩ := by
  rcases h with h | ⟨b, o, ha, _⟩
  · subst h; simp at hp
  · exact ⟨b, o, ha⟩
/-- a row of pairs that the call has made -/
theorem ownsRow_prs {w : World} {base : Nat} {e : TypeId} {g n m cap : Nat} {xs : List (Value × Value)} (h : w.ownsRow base e 2 (.slice (some ⟨g, 0, none⟩) n cap) m (flat2 xs)) : Prs w (some ⟨g, 0, none⟩) xs ∧ n = m ∧ m = xs.length ∧ base ≤ g ∧ n ≤ cap ∧ g < w.heap.size := by
  have h1 := h.1
  obtain ⟨a, b, c, d, f⟩ := ownsRow_some h
  refine ⟨.inr ⟨g, 0, rfl, c, fun i x hx => ?_⟩, a, by rw [flat2_length] at h1; omega, b, d, c⟩
  have := flat2_get xs i x hx
  rw [Nat.zero_add]
  exact ⟨(f _ _ this.1).1, (f _ _ this.2).1⟩

theorem infoSym : (Tryz.prog.info? 56).map (fun i => (i.zero, i.size, i.bytes)) = some (some (.agg #[.string ⟨#[]⟩, .slice none 0 0]), 2, 40) := by kernel_rfl

/-- a slice of pairs of the call's own -/
def PrsRet (w : World) (xs : List (Value × Value)) (e : Ending) (w' : World) : Prop := ∃ g cp, e = .returned (.slice (some ⟨g, 0, none⟩) xs.length cp) ∧ Prs w' (some ⟨g, 0, none⟩) xs ∧ w.heap.size ≤ g ∧ xs.length ≤ cp ∧ Fr w w'

set_option maxRecDepth 100000 in
set_option maxHeartbeats 4000000 in
theorem Concat_sym (p c : Nat) (a b : Option Addr) (ca cb : Nat) (xs ys : List (Value × Value)) (w : World) (_hp : p < w.heap.size) (hc1 : w.cell? ⟨p, 0, none⟩ = some (.slice a xs.length ca)) (hc2 : w.cell? ⟨p, 1, none⟩ = some (.slice b ys.length cb))
    (hx : Prs w a xs) (hy : Prs w b ys) (hnb : b = none → cb = 0 ∧ ys = []) (ho1 : ∀ z, z ∈ xs → z.1.oneCell' = true ∧ z.2.oneCell' = true) (ho2 : ∀ z, z ∈ ys → z.1.oneCell' = true ∧ z.2.oneCell' = true) (hl : xs.length + ys.length ≤ 1000000) (hpos : 0 < xs.length) :
    Calls Tryz.prog 64 #[.slice (some ⟨p, 0, none⟩) 2 c] w (PrsRet w (xs ++ ys)) := by
  obtain ⟨i0, hi, hz0, hz1, hz2⟩ := info_parts infoSym
  obtain ⟨ab, ao, rfl⟩ := hx.addr hpos
  have hgrow := fun W => Any8.slices_Grow_grow Tryz.growSy i0 _ hi hz0 (by rw [hz1]; decide) none 0 0 (xs.length + ys.length) [] W (Nat.le_refl _) (by omega) (by rw [hz2]; omega) (by omega) (by rw [hz1]; simp) (fun _ => rfl) (fun _ h => by cases h)
  change ∀ W, Calls Tryz.prog 115 #[.slice none 0 0, .int .i64 ((xs.length + ys.length : Nat) : Int)] W (fun e w' => e = .returned (.slice (some ⟨W.heap.size, 0, none⟩) 0 (grownCap W (0 + (xs.length + ys.length)) 0 56)) ∧
    w' = W.drew.alloc (.cells (([] : List Value).toArray ++ Builtin.zeroCells (Value.agg #[.string ⟨#[]⟩, .slice none 0 0]).cells (0 + (xs.length + ys.length) - 0) ++ Builtin.zeroCells (Value.agg #[.string ⟨#[]⟩, .slice none 0 0]).cells (grownCap W (0 + (xs.length + ys.length)) 0 56 - (0 + (xs.length + ys.length)))) 56)) at hgrow
  obtain ⟨n, hn⟩ : ∃ n, n = xs.length := ⟨_, rfl⟩
  obtain ⟨m, hm⟩ : ∃ m, m = ys.length := ⟨_, rfl⟩
  have hlen : (xs ++ ys).length = n + m := by rw [List.length_append, hn, hm]
  have hown0 : ∀ W : World, W.heap.size = w.heap.size → (W.alloc (.cells (([] : List Value).toArray ++ Builtin.zeroCells (Value.agg #[.string ⟨#[]⟩, .slice none 0 0]).cells (0 + (n + m) - 0) ++ Builtin.zeroCells (Value.agg #[.string ⟨#[]⟩, .slice none 0 0]).cells (grownCap w (0 + (n + m)) 0 56 - (0 + (n + m)))) 56)).ownsRow w.heap.size 56 2 (.slice (some ⟨w.heap.size, 0, none⟩) 0 (grownCap w (0 + (n + m)) 0 56)) 0 [] := fun W hW => by
    have hge := grownCap_ge w (0 + (n + m)) 0 56
    have hle := grownCap_le_maxLen w (0 + (n + m)) 0 56 (by unfold maxLen; omega)
    have hnew := heap_alloc_new W (.cells (([] : List Value).toArray ++ Builtin.zeroCells (Value.agg #[.string ⟨#[]⟩, .slice none 0 0]).cells (0 + (n + m) - 0) ++ Builtin.zeroCells (Value.agg #[.string ⟨#[]⟩, .slice none 0 0]).cells (grownCap w (0 + (n + m)) 0 56 - (0 + (n + m)))) 56)
    rw [hW] at hnew
    refine ⟨rfl, .inr ⟨w.heap.size, _, _, rfl, Nat.le_refl _, hnew, Nat.zero_le _, hle, ?_, by simp⟩⟩
    rw [Array.size_append, Array.size_append, size_zeroCells, size_zeroCells]
    generalize grownCap w (0 + (n + m)) 0 56 = C at *
    show ([] : List Value).toArray.size + (0 + (n + m) - 0) * 2 + (C - (0 + (n + m))) * 2 = C * 2
    have e0 : ([] : List Value).toArray.size = 0 := rfl
    rw [e0]
    omega
  rw [← hn, ← hm] at hl
  rw [← hn] at hpos hc1
  rw [← hm] at hc2
  rw [← hn, ← hm] at hgrow
  have hgrow1 := Lib.hid (show ∀ W, W.heap.size = w.heap.size → W.tape = w.tape → W.drawn = w.drawn → Calls Tryz.prog 115 #[.slice none 0 0, .int .i64 ((n + m : Nat) : Int)] W (fun e w' => ∃ C, e = .returned (.slice (some ⟨w.heap.size, 0, none⟩) 0 C) ∧ Fr W w' ∧ w'.ownsRow w.heap.size 56 2 (.slice (some ⟨w.heap.size, 0, none⟩) 0 C) 0 []) from fun W h1 h2 h3 => by
    have hC : grownCap W (0 + (n + m)) 0 56 = grownCap w (0 + (n + m)) 0 56 := by unfold grownCap; rw [h2, h3]
    have hw := hown0 W.drew h1
    have h := hgrow W
    rw [hC, h1] at h
    refine h.mono ?_
    rintro e w' ⟨rfl, rfl⟩
    exact ⟨_, rfl, (Fr.refl W).drew.alloc _, hw⟩)
  have hx1 := Lib.hid hx
  have hy1 := Lib.hid hy
  have hn1 := Lib.hid hn
  have hm1 := Lib.hid hm
  have hlen1 := Lib.hid hlen
  have ho1 := Lib.hid ho1
  have ho2 := Lib.hid ho2
  have hnb := Lib.hid hnb
  rename_i q1 q2 q3
  clear q1 q2 q3 hx hy hn hm hlen hgrow hown0
  cases b with
  | none =>
    obtain ⟨rfl, rfl⟩ := hnb.out rfl
    obtain rfl : m = 0 := hm1.out
    have hg9 := hgrow1.out
    simp only [Nat.add_zero] at hg9
    replace hgrow1 := Lib.hid hg9
    clear hg9
    go_enter Tryz.func64, Tryz.ntmps64
    go_wp2_with fail
    refine wp_loop_rounds 3 ?_
    rw [rounds_succ]
    go_wp2_with fail
    rw [rounds_succ]
    go_wp2_with fail
    rw [rounds_succ]
    go_wp2_with fail
    skip
    refine (hgrow1.out _ rfl rfl rfl).mono ?_
    rintro e w1 ⟨C, rfl, hf1, hown1⟩
    have hcA := hf1.keep hc1
    have hcB := hf1.keep hc2
    go_wp2_with fail
    refine wp_loop_rounds 3 ?_
    rw [rounds_succ]
    have hxc := Lib.hid ((hx1.out.fr hf1).cells)
    have hfl1 := Lib.hid (flat2_length xs)
    have hs1 := hf1.size
    go_wp2_with (at_builtin; refine wpList_append_lies _ rfl _ _ 32 (by rfl) w.heap.size 56 i0 _ 2 40 Tryz.underlying32 hi hz0 hz1 hz2 rfl (by decide) _ 0 _ (by rfl) hown1 ⟨ab, ao, none⟩ n ca (flat2 xs) (by rfl) (by rw [hfl1.out, ← hn1.out]) hxc.out (flat2_one ho1.out) hpos (by unfold maxLen; omega) (by omega) (by omega) w1.heap.size rfl ?_; intro g2 cap2 w2 hown2 hgr2 hat2 hlt2)
    have hg2 : w.heap.size ≤ g2 := by
      have := (ownsRow_some hown2).2.1
      exact this
    have hf2 : Fr w w2 := hf1.grown hgr2 (fun k e => by simp [Value.ownBlock] at e; omega)
    replace hcA := hf2.keep hc1
    replace hcB := hf2.keep hc2
    rw [List.nil_append, Nat.zero_add] at hown2
    clear hgr2 hat2 hown1 hgrow1 hxc
    go_wp2_with fail
    rw [rounds_succ]
    go_wp2_with (at_builtin; refine wpList_append_own_none rfl _ _ 32 (by rfl) w.heap.size 56 i0 2 Tryz.underlying32 hi _ n (flat2 xs) (by rfl) hown2 (by rfl) ?_)
    obtain ⟨hp2, -, -, -, hcap2, -⟩ := ownsRow_prs hown2
    have hfin := Lib.hid (show PrsRet w (xs ++ []) (.returned (.slice (some ⟨g2, 0, none⟩) n cap2)) w2 from ⟨g2, cap2, by rw [hlen1.out]; rfl, by rw [List.append_nil]; exact hp2, hg2, by rw [hlen1.out]; exact hcap2, hf2⟩)
    go_wp2_with fail
    rw [rounds_succ]
    go_wp2_with fail
    go_ret
    exact hfin.out
  | some bb =>
    have hyc : ∀ j u, (flat2 ys)[j]? = some u → w.cell? (bb.add j) = some u := by
      by_cases h0 : ys.length = 0
      · have : ys = [] := List.eq_nil_of_length_eq_zero h0
        intro j u hu; rw [this] at hu; simp [flat2] at hu
      · obtain ⟨b1, o1, e⟩ := hy1.out.addr (by omega)
        injection e with e
        subst e
        exact hy1.out.cells
    have hfl2 := Lib.hid (flat2_length ys)
    replace hyc := Lib.hid hyc
    go_enter Tryz.func64, Tryz.ntmps64
    go_wp2_with fail
    refine wp_loop_rounds 3 ?_
    rw [rounds_succ]
    go_wp2_with fail
    rw [rounds_succ]
    go_wp2_with fail
    rw [rounds_succ]
    go_wp2_with fail
    rw [show ((n : Int) + (m : Int)) = ((n + m : Nat) : Int) by omega]
    refine (hgrow1.out _ rfl rfl rfl).mono ?_
    rintro e w1 ⟨C, rfl, hf1, hown1⟩
    have hcA := hf1.keep hc1
    have hcB := hf1.keep hc2
    go_wp2_with fail
    refine wp_loop_rounds 3 ?_
    rw [rounds_succ]
    have hxc := Lib.hid ((hx1.out.fr hf1).cells)
    have hfl1 := Lib.hid (flat2_length xs)
    have hs1 := hf1.size
    go_wp2_with (at_builtin; refine wpList_append_lies _ rfl _ _ 32 (by rfl) w.heap.size 56 i0 _ 2 40 Tryz.underlying32 hi hz0 hz1 hz2 rfl (by decide) _ 0 _ (by rfl) hown1 ⟨ab, ao, none⟩ n ca (flat2 xs) (by rfl) (by rw [hfl1.out, ← hn1.out]) hxc.out (flat2_one ho1.out) hpos (by unfold maxLen; omega) (by omega) (by omega) w1.heap.size rfl ?_; intro g2 cap2 w2 hown2 hgr2 hat2 hlt2)
    have hg2 : w.heap.size ≤ g2 := by
      have := (ownsRow_some hown2).2.1
      exact this
    have hf2 : Fr w w2 := hf1.grown hgr2 (fun k e => by simp [Value.ownBlock] at e; omega)
    replace hcA := hf2.keep hc1
    replace hcB := hf2.keep hc2
    rw [List.nil_append, Nat.zero_add] at hown2
    clear hgr2 hat2 hown1 hgrow1 hxc
    go_wp2_with fail
    rw [rounds_succ]
    have hyc2 : Hid (∀ j u, (flat2 ys)[j]? = some u → w2.cell? (bb.add j) = some u) := Lib.hid (fun j u hu => hf2.keep (hyc.out j u hu))
    have hs2 := hf2.size
    go_wp2_with (at_builtin; refine wpList_append_own _ rfl _ _ 32 (by rfl) w.heap.size 56 i0 _ 2 40 Tryz.underlying32 hi hz0 hz1 hz2 rfl (by decide) _ n _ (by rfl) hown2 bb m cb (flat2 ys) (by rfl) (by rw [hfl2.out, ← hm1.out]) hyc2.out (flat2_one ho2.out) (by unfold maxLen; omega) (by omega) hs2 ?_; intro v3 w3 hown3 hgr3 hv3)
    obtain ⟨g3, cap3, rfl⟩ := ownsRow_pos hown3 (by omega)
    rw [← flat2_append] at hown3
    obtain ⟨hp3, -, -, hg3, hcap3, -⟩ := ownsRow_prs hown3
    have hf3 : Fr w w3 := hf2.grown hgr3 (fun k e => by simp [Value.ownBlock] at e; omega)
    have hfin := Lib.hid (show PrsRet w (xs ++ ys) (.returned (.slice (some ⟨g3, 0, none⟩) ((n + m : Nat) : Nat) cap3)) w3 from ⟨g3, cap3, by rw [hlen1.out], hp3, hg3, by rw [hlen1.out]; exact hcap3, hf3⟩)
    clear hv3 hgr3 hown3 hown2
    go_wp2_with fail
    rw [rounds_succ]
    go_wp2_with fail
    go_ret
    exact hfin.out
end Go.Proofs.YtamffndlpminmaaGreatDoor

/- Notations; spelling.Check of a right one. -/
namespace Go.Proofs.YtamffndlpminmaaGreatDoor
open Go.RowKit Go.Lib

/-- a symbol, and where its row lies -/
structure Sy where
  nm : ByteArray
  row : List Int
  ra : Option Addr
  rc : Nat
def Sy.enc (x : Sy) : Value × Value := (.string x.nm, .slice x.ra x.row.length x.rc)
theorem Sy.one (l : List Sy) : ∀ z, z ∈ l.map Sy.enc → z.1.oneCell' = true ∧ z.2.oneCell' = true := fun z hz => by
  obtain ⟨x, -, rfl⟩ := List.mem_map.1 hz
  exact ⟨rfl, rfl⟩
def Syms (w : World) (a : Option Addr) (xs : List Sy) : Prop := Prs w a (xs.map Sy.enc) ∧ ∀ x, x ∈ xs → El w iv x.ra x.row
theorem Syms.fr {w w' : World} {a : Option Addr} {xs : List Sy} (h : Syms w a xs) (k : Fr w w') : Syms w' a xs := ⟨h.1.fr k, fun x hx => (h.2 x hx).fr k⟩
/-- what stands at a place -/
theorem Syms.at {w : World} {a : Option Addr} {xs : List Sy} (h : Syms w a xs) {i : Nat} (hi : i < xs.length) :
    ∃ b o x, a = some ⟨b, o, none⟩ ∧ b < w.heap.size ∧ xs[i]? = some x ∧ w.cell? ⟨b, o + i * 2, none⟩ = some (.string x.nm) ∧ w.cell? ⟨b, o + i * 2 + 1, none⟩ = some (.slice x.ra x.row.length x.rc) ∧ El w iv x.ra x.row := by
  obtain ⟨b, o, z, ha, hb, hz, hc, hc2⟩ := h.1.at (i := i) (by rw [List.length_map]; exact hi)
  rw [List.getElem?_map, List.getElem?_eq_getElem hi] at hz
  injection hz with hz
  subst hz
  exact ⟨b, o, xs[i], ha, hb, List.getElem?_eq_getElem hi, hc, hc2, h.2 _ (List.getElem_mem hi)⟩

structure NotIs (w : World) (aN aA : Option Addr) (cA : Nat) (N A : List Sy) : Prop where
  noms : Syms w aN N
  accs : Syms w aA A
  nil : aA = none → cA = 0 ∧ A = []
theorem NotIs.fr {w w' : World} {aN aA : Option Addr} {cA : Nat} {N A : List Sy} (h : NotIs w aN aA cA N A) (k : Fr w w') : NotIs w' aN aA cA N A := ⟨h.1.fr k, h.2.fr k, h.3⟩

/-- a right notation with rows of d elements -/
structure NotOk (d : Nat) (N A : List Sy) : Prop where
  n1 : 0 < N.length
  n60 : N.length ≤ 60
  a6 : A.length ≤ 6
  d12 : d ≤ 12
  row : ∀ x, x ∈ N ++ A → x.row.length = d
  fit : ∀ x, x ∈ N ++ A → ∀ y, y ∈ x.row → fitB y = true
  nm : ∀ x, x ∈ N ++ A → isName x.nm = true
  dis : ∀ (i j : Nat) (x y : Sy), (N ++ A)[i]? = some x → (N ++ A)[j]? = some y → i < j → x.nm ≠ y.nm

theorem isName_le {s : ByteArray} (h : isName s = true) : s.size ≤ 32 := by
  unfold isName at h
  rw [Bool.and_eq_true] at h
  exact (of_decide_eq_true h.1).2

theorem take_any_false {α : Type} (p : α → Bool) (l : List α) (i : Nat) (h : ∀ (j : Nat) (y : α), l[j]? = some y → j < i → p y = false) : (l.take i).any p = false := by
  rw [List.any_eq_false]
  intro y hy
  obtain ⟨j, hj⟩ := List.getElem?_of_mem hy
  rw [List.getElem?_take] at hj
  split at hj
  · rename_i hji; rw [h j y hj hji]; simp
  · simp at hj

end Go.Proofs.YtamffndlpminmaaGreatDoor

/- A range over a function whose iterator writes cells of its own (spelling.box): one law for the caller, over a contract in which the iterator's own blocks are a parameter. The proof follows the kit's law over 'SeqStopsK' (its book-keeping of the record), the body never leaves. -/
namespace Go.Proofs.YtamffndlpminmaaGreatDoor
open Go.RowKit Go.Lib

theorem Fx.putObj (W : World) (l : Nat) (o : Obj) : Fx (· = l) W (W.putObj l o) :=
  ⟨rfl, rfl, rfl, by simp, fun k _ hk => World.putObj_heap_other (fun e => hk e)⟩

/-- what the caller's invariant bears: steps of the iterator in the blocks of its own, and new blocks -/
def Abide {α : Type} (J : (Nat → Prop) → List α → World → Prop) : Prop :=
  ∀ p p' s W W', J p s W → Fx p W W' → (∀ k, p' k → p k ∨ (W.heap.size ≤ k ∧ k < W'.heap.size)) → J p' s W'

def SeqX {α : Type} (F : Fence) (n : Nat) (P : Program) (g : Nat) (lb : Array Value) (encs : α → Array Value) (Fresh : Nat → (Nat → Prop) → List α → α → World → Prop) (S : List α → Prop) (w0 : World) (q : Nat → Prop) : Prop :=
  ∀ (l : Nat) (J : (Nat → Prop) → List α → World → Prop) (W : World), Fr w0 W → Abide J →
    (∀ p pre x W1, J p pre W1 → (∀ k, p k → W.heap.size ≤ k) → Fresh W.heap.size p pre x W1 → YieldAt F (n - 1) P l (encs x) W1 fun e W' =>
      e = .returned (.bool true) ∧ J p (pre ++ [x]) W' ∧ Fx (fun k => ¬ p k ∧ q k) W1 W') →
    J (fun _ => False) [] W →
    CallsIn F n P g (#[.func (.yield l) #[] #[]] ++ lb) W fun e W' => (∃ v, e = .returned v) ∧ ∃ p xs, S xs ∧ J p xs W'

/-- how the body of a round is left -/
def postX {α : Type} (D : Nat) (q : Nat → Prop) (I : (Nat → Prop) → List α → World → Prop) (p : Nat → Prop) (xs : List α) (W : World) : Exit → Act → World → Prop
  | .normal, _, W' => Fx (fun k => ¬ p k ∧ q k ∧ k ≠ D ∧ k ≠ D + 1) W W' ∧ I p xs W'
  | _, _, _ => False

theorem wpIn_rangeX {F : Fence} {n : Nat} {P : Program} {α : Type} {g : Operand} {ps : Array Tmp} {assign body : Code} {Q : Exit → Act → World → Prop} {a : Act} {w : World}
    (hro : F.round = none) (h1 : 1 ≤ n) {gf : Nat} {lb : Array Value} (hg : a.eval g = .func (.func gf) #[] lb) (hFg : F.fn gf) (eg : ∀ args w, (callFunc gf args).run P w = .ok (.enter gf args) w)
    {encs : α → Array Value} {Fresh : Nat → (Nat → Prop) → List α → α → World → Prop} {S : List α → Prop} {w0 : World} {q : Nat → Prop} (hseq : SeqX F (n - 1) P gf lb encs Fresh S w0 q) (hb0 : Fr w0 w) (hqD : q (w.heap.size + 1)) (hps : ∀ x, (encs x).size = ps.size)
    (I : (Nat → Prop) → List α → World → Prop)
    (hI : ∀ p p' s W W', I p s W → Fx (fun k => p k ∨ k = w.heap.size ∨ k = w.heap.size + 1) W W' → (∀ k, p' k → p k ∨ (W.heap.size ≤ k ∧ k < W'.heap.size)) → (∀ k, p' k → w.heap.size + 2 ≤ k) → I p' s W')
    (h0 : I (fun _ => False) [] w) (Ax : (Nat → Prop) → List α → α → Act → World → Prop) (hAx : ∀ p pre x a' W W', Ax p pre x a' W → Fx (· = w.heap.size + 1) W W' → Ax p pre x a' W')
    (hassign : ∀ (l : Nat) (p : Nat → Prop) (pre : List α) (x : α) (W : World) (K : Act → World → Prop), w.heap.size + 2 ≤ W.heap.size → (∀ k, p k → w.heap.size + 2 ≤ k ∧ k < W.heap.size) → Fresh (w.heap.size + 2) p pre x W →
      (∀ a' W', Fr W W' → Ax p pre x a' W' → K a' W') →
      assign.wpIn (F.inRound l) (n - 1 - 1) P (Exit.then K (fun _ _ _ => False)) { tmps := (ps.zip (encs x)).foldl (fun t (p, v) => t.setIfInBounds p v) a.tmps, defers := [] } W)
    (hbody : ∀ (l : Nat) (p : Nat → Prop) (pre : List α) (x : α) (a' : Act) (W : World), w.heap.size + 2 ≤ W.heap.size → (∀ k, p k → w.heap.size + 2 ≤ k ∧ k < W.heap.size) → I p pre W → Ax p pre x a' W →
      body.wpIn (F.inRound l) (n - 1 - 1) P (postX w.heap.size q I p (pre ++ [x]) W) a' W)
    (hdone : ∀ (p : Nat → Prop) (xs : List α) (W : World), S xs → I p xs W → W.heap[w.heap.size]? = some (.deferred (some [])) → Q .normal { a with defers := { target := .collected w.heap.size, args := #[] } :: a.defers } W) :
    (Code.rangeFunc g ps assign body).wpIn F n P Q a w := by
  refine wpIn_rangeFunc ?_
  intro fn hfn
  rw [hro]
  obtain ⟨rec, hrec⟩ : ∃ rec : LoopState → Option Code → Loop, rec = fun st pe => { state := st, pending := pe, fn, tmps := a.tmps, params := ps, assign, body, defers := w.heap.size } := ⟨_, rfl⟩
  obtain ⟨W1, hW1⟩ : ∃ W1, (w.alloc (.deferred (some []))).alloc (.loop (rec .ready none)) = W1 := ⟨_, rfl⟩
  have hL1 : W1.heap[w.heap.size + 1]? = some (.loop (rec .ready none)) := by
    rw [← hW1]; have := World.alloc_heap_new (w.alloc (.deferred (some []))) (.loop (rec .ready none)); rwa [World.size_alloc] at this
  have hK1 : W1.heap[w.heap.size]? = some (.deferred (some [])) := by
    rw [← hW1]; exact (Below.heap_alloc _ _ _ (by simp)).trans (World.alloc_heap_new w _)
  have hsz1 : W1.heap.size = w.heap.size + 2 := by rw [← hW1]; simp
  have hfr1 : Fr w W1 := by rw [← hW1]; exact ((Fr.refl w).alloc _).alloc _
  have hI1 : I (fun _ => False) [] W1 := hI _ _ _ _ _ h0 (Fx.of_fr hfr1) (fun k e => e.elim) (fun k e => e.elim)
  refine ⟨w.heap.size + 1, [{ target := .collected w.heap.size, args := #[] }], W1, { target := .fn (.func gf) lb, args := #[.func (.yield (w.heap.size + 1)) #[] #[]] }, W1, gf,
    #[.func (.yield (w.heap.size + 1)) #[] #[]] ++ lb, W1, ?_, ?_, ?_, ?_, fun _ => h1, ?_⟩
  · rw [← hW1, hrec]; exact run_enterLoop_outer _ _ _ _ _
  · simp only [resolve, hg]
    simp [go_sem]
  · intro f' hf'; simp [Target.leads] at hf'; subst hf'; exact hFg
  · simp [invoke, go_sem, eg]
  · refine (hseq (w.heap.size + 1)
      (fun p pre W => I p pre W ∧ W.heap[w.heap.size + 1]? = some (.loop (rec .ready none)) ∧ W.heap[w.heap.size]? = some (.deferred (some [])) ∧ ∀ k, p k → w.heap.size + 2 ≤ k ∧ k < W.heap.size)
      W1 (hb0.trans hfr1) ?_ ?_ ⟨hI1, hL1, hK1, fun k e => e.elim⟩).mono ?_
    · rintro p p' s A B ⟨hi, hl, hk, hp⟩ hfx hpp
      have hlt : w.heap.size + 1 < A.heap.size := (Array.getElem?_eq_some_iff.1 hl).1
      have hpp2 : ∀ k, p' k → w.heap.size + 2 ≤ k := fun k e => by
        rcases hpp k e with e | ⟨e1, e2⟩
        · have := hp k e; omega
        · omega
      refine ⟨hI _ _ _ _ _ hi (hfx.mono fun k e => .inl e) hpp hpp2, (hfx.block _ hlt (fun e => by have := hp _ e; omega)).trans hl, (hfx.block _ (by omega) (fun e => by have := hp _ e; omega)).trans hk, fun k e => ?_⟩
      have hs := hfx.size
      rcases hpp k e with e | ⟨e1, e2⟩
      · have := hp k e; omega
      · omega
    · rintro p pre x W ⟨hi, hl, hk, hp⟩ hpn hfresh
      have hlt : w.heap.size + 1 < W.heap.size := (Array.getElem?_eq_some_iff.1 hl).1
      rw [hsz1] at hfresh
      have hy := run_yield (P := P) (args := encs x) hl (by rw [hrec]; exact hps x)
      rw [hrec] at hy
      refine ⟨fn, _, assign, body, hy, roundIn_of_wpIn hfn (hassign _ p pre x W _ (by omega) hp hfresh ?_)⟩
      intro a' W' hfr' hax
      have hl' : W'.heap[w.heap.size + 1]? = some (.loop (rec .ready none)) := (hfr'.block _ hlt).trans hl
      have hk' : W'.heap[w.heap.size]? = some (.deferred (some [])) := (hfr'.block _ (by omega)).trans hk
      have hlt' : w.heap.size + 1 < W'.heap.size := Nat.lt_of_lt_of_le hlt hfr'.size
      refine ⟨_, run_beginRound hl' (by rw [hrec]), ?_⟩
      generalize hW2 : World.putObj W' (w.heap.size + 1) _ = W2
      have hl2 : W2.heap[w.heap.size + 1]? = some (.loop { rec .ready none with state := .busy }) := by rw [← hW2]; exact World.putObj_heap_same hlt'
      have hk2 : W2.heap[w.heap.size]? = some (.deferred (some [])) := by rw [← hW2]; exact (World.putObj_heap_other (by omega)).trans hk'
      have hf2 : Fx (· = w.heap.size + 1) W' W2 := by rw [← hW2]; exact Fx.putObj _ _ _
      clear hW2
      have hi2 := hI p p _ _ _ (hI p p _ _ _ hi (Fx.of_fr hfr') (fun k e => .inl e) (fun k e => (hp k e).1)) (hf2.mono fun k e => .inr (.inr e)) (fun k e => .inl e) (fun k e => (hp k e).1)
      have hs2 := hf2.size
      have hs1 := hfr'.size
      refine wpIn_mono (hbody _ p pre x a' _ (by omega) (fun k e => by have := hp k e; omega) hi2 (hAx _ _ _ _ _ _ hax hf2)) ?_
      rintro e a3 W3 hq9
      cases e with
      | normal =>
        obtain ⟨hf3, hi3⟩ := hq9
        have hl3 : W3.heap[w.heap.size + 1]? = some (.loop { rec .ready none with state := .busy }) := (hf3.block _ (by omega) (fun e => e.2.2.2 rfl)).trans hl2
        have hk3 : W3.heap[w.heap.size]? = some (.deferred (some [])) := (hf3.block _ (by omega) (fun e => e.2.2.1 rfl)).trans hk2
        have hlt3 : w.heap.size + 1 < W3.heap.size := (Array.getElem?_eq_some_iff.1 hl3).1
        have hr := run_endRound (P := P) none hl3
        have hs3 := hf3.size
        have hz0 := hb0.size
        generalize hW4 : World.putObj W3 (w.heap.size + 1) _ = W4 at hr
        have hf4 : Fx (· = w.heap.size + 1) W3 W4 := by rw [← hW4]; exact Fx.putObj _ _ _
        have hl4 : W4.heap[w.heap.size + 1]? = some (.loop (rec .ready none)) := by rw [← hW4, hrec]; exact World.putObj_heap_same hlt3
        have hk4 : W4.heap[w.heap.size]? = some (.deferred (some [])) := by rw [← hW4]; exact (World.putObj_heap_other (by omega)).trans hk3
        clear hW4
        have hs4 := hf4.size
        refine ⟨_, _, hr, rfl, ⟨hI p p _ _ _ hi3 (hf4.mono fun k e => .inr (.inr e)) (fun k e => .inl e) (fun k e => (hp k e).1), hl4, hk4, fun k e => by have := hp k e; omega⟩, ?_⟩
        · refine (((Fx.of_fr hfr').trans (hf2.mono (fun k e => ?_))).trans (hf3.mono (fun k e => ?_))).trans ?_
          · have e : k = w.heap.size + 1 := e
            exact ⟨fun h => by have := hp k h; omega, by rw [e]; exact hqD⟩
          · exact ⟨e.1, e.2.1⟩
          · refine hf4.mono (fun k e => ?_)
            have e : k = w.heap.size + 1 := e
            exact ⟨fun h => by have := hp k h; omega, by rw [e]; exact hqD⟩
      | ret => exact hq9.elim
      | exit id => exact hq9.elim
      | goto t => exact hq9.elim
      | panic ch => exact hq9.elim
      | outgrown => exact hq9.elim
    · rintro e W2 ⟨⟨v, rfl⟩, p, xs, hS, hi, hl, hk, hp⟩
      refine ⟨none, _, by have := run_endLoop (P := P) hl (by rw [hrec]; simp); rw [hrec] at this; exact this, hdone p xs _ hS (hI p p _ _ _ hi ((Fx.putObj W2 (w.heap.size + 1) _).mono fun k e => .inr (.inr e)) (fun k e => .inl e) (fun k e => (hp k e).1)) ((World.putObj_heap_other (by omega)).trans hk)⟩
end Go.Proofs.YtamffndlpminmaaGreatDoor

/- The order in which spelling.box counts: plain lists. -/
namespace Go.Proofs.YtamffndlpminmaaGreatDoor

/-- the next counts, the first place fastest -/
def nextC (m : Int) : List Int → Option (List Int)
  | [] => none
  | c :: cs => if c = m then (nextC m cs).map (fun t => -m :: t) else some ((c + 1) :: cs)
/-- -m .. m -/
def spanC (m : Nat) : List Int := (List.range (2 * m + 1)).map fun (k : Nat) => (k : Int) - (m : Int)
def boxC (m : Nat) : Nat → List (List Int)
  | 0 => [[]]
  | n + 1 => (boxC m n).flatMap fun t => (spanC m).map (· :: t)
/-- each leads to the one behind it, the last to none -/
def IsRun (m : Int) : List (List Int) → Prop
  | [] => True
  | [x] => nextC m x = none
  | x :: y :: l => nextC m x = some y ∧ IsRun m (y :: l)

theorem isRun_tail {m : Int} {x : List Int} {l : List (List Int)} (h : IsRun m (x :: l)) : IsRun m l := by
  cases l with
  | nil => trivial
  | cons y l => exact h.2
theorem isRun_next {m : Int} {x : List Int} {l : List (List Int)} (h : IsRun m (x :: l)) : nextC m x = l.head? := by
  cases l with
  | nil => exact h
  | cons y l => exact h.1
theorem isRun_cons {m : Int} {x : List Int} {l : List (List Int)} (h1 : nextC m x = l.head?) (h2 : IsRun m l) : IsRun m (x :: l) := by
  cases l with
  | nil => exact h1
  | cons y l => exact ⟨h1, h2⟩

/-- the block of a tail: k + 1 steps up to m -/
theorem isRun_block {m : Nat} (t : List Int) (l : List (List Int)) (hl : IsRun m l) (hn : (nextC m t).map (fun u => -(m : Int) :: u) = l.head?) :
    ∀ (j : Nat) (a : Int), a + j = m → IsRun m (((List.range (j + 1)).map fun (k : Nat) => ((a + (k : Int)) :: t)) ++ l)
  | 0, a, h => by
    have e : (List.range (0 + 1)).map (fun (k : Nat) => (((m : Int) + (k : Int)) :: t)) ++ l = ((m : Int) :: t) :: l := by simp [List.range_succ]
    have ha : a = (m : Int) := by omega
    rw [ha, e]
    refine isRun_cons ?_ hl
    rw [nextC, if_pos rfl, hn]
  | j + 1, a, h => by
    rw [List.range_succ_eq_map, List.map_cons, List.map_map, List.cons_append]
    have ih := isRun_block t l hl hn j (a + 1) (by omega)
    have e : (List.range (j + 1)).map ((fun (k : Nat) => ((a + (k : Int)) :: t)) ∘ Nat.succ) = (List.range (j + 1)).map fun (k : Nat) => ((a + 1 + (k : Int)) :: t) := by
      refine List.map_congr_left fun k _ => ?_
      simp only [Function.comp, Nat.succ_eq_add_one]
      congr 1; omega
    rw [e]
    refine isRun_cons ?_ ih
    rw [nextC, if_neg (by simp; omega), List.range_succ_eq_map]
    simp

theorem span_head (m : Nat) : (spanC m).head? = some (-(m : Int)) := by
  unfold spanC; rw [List.range_succ_eq_map]; simp
theorem isRun_flat {m : Nat} : ∀ (T : List (List Int)), IsRun m T → IsRun m (T.flatMap fun t => (spanC m).map (· :: t)) ∧ (T.flatMap fun t => (spanC m).map (· :: t)).head? = T.head?.map (fun u => -(m : Int) :: u)
  | [], _ => ⟨trivial, rfl⟩
  | t :: T, h => by
    obtain ⟨i1, i2⟩ := isRun_flat T (isRun_tail h)
    constructor
    · rw [List.flatMap_cons]
      have := isRun_block (m := m) t _ i1 (by rw [i2, isRun_next h]) (2 * m) (-(m : Int)) (by omega)
      have e : (spanC m).map (· :: t) = (List.range (2 * m + 1)).map fun (k : Nat) => ((-(m : Int) + (k : Int)) :: t) := by
        unfold spanC; rw [List.map_map]
        refine List.map_congr_left fun k _ => ?_
        simp only [Function.comp]
        congr 1; omega
      rw [e]; exact this
    · rw [List.flatMap_cons, List.head?_append, List.head?_map, span_head]; rfl
theorem isRun_box (m : Nat) : ∀ n, IsRun m (boxC m n) ∧ (boxC m n).head? = some (List.replicate n (-(m : Int)))
  | 0 => ⟨rfl, rfl⟩
  | n + 1 => by
    obtain ⟨h1, h2⟩ := isRun_box m n
    obtain ⟨a, b⟩ := isRun_flat _ h1
    exact ⟨a, by rw [boxC, b, h2]; rfl⟩
theorem boxC_len (m : Nat) : ∀ n t, t ∈ boxC m n → t.length = n
  | 0, t, h => by simp [boxC] at h; subst h; rfl
  | n + 1, t, h => by
    unfold boxC at h
    obtain ⟨u, hu, ht⟩ := List.mem_flatMap.1 h
    obtain ⟨c, -, rfl⟩ := List.mem_map.1 ht
    simp [boxC_len m n u hu]
theorem boxC_size (m : Nat) : ∀ n, (boxC m n).length = (2 * m + 1) ^ n
  | 0 => rfl
  | n + 1 => by
    have h := boxC_size m n
    have e : ∀ T : List (List Int), (T.flatMap fun t => (spanC m).map (· :: t)).length = T.length * (2 * m + 1) := fun T => by
      induction T with
      | nil => simp
      | cons t T ih => rw [List.flatMap_cons, List.length_append, ih]; simp [spanC, Nat.succ_mul]; omega
    rw [boxC, e, h, Nat.pow_succ]
theorem boxC_mem (m : Nat) : ∀ n t, t ∈ boxC m n → ∀ c, c ∈ t → -(m : Int) ≤ c ∧ c ≤ m
  | 0, t, h => by simp [boxC] at h; subst h; simp
  | n + 1, t, h => by
    unfold boxC at h
    obtain ⟨u, hu, ht⟩ := List.mem_flatMap.1 h
    obtain ⟨c, hc, rfl⟩ := List.mem_map.1 ht
    intro d hd
    rcases List.mem_cons.1 hd with rfl | hd
    · unfold spanC at hc
      obtain ⟨k, hk, rfl⟩ := List.mem_map.1 hc
      have := List.mem_range.1 hk
      omega
    · exact boxC_mem m n u hu d hd
end Go.Proofs.YtamffndlpminmaaGreatDoor

/- The order of spellings, in plain lists; sorting; filtering. -/
namespace Go.Proofs.YtamffndlpminmaaGreatDoor
open Go.Sort

def cx : List Int → Int
  | [] => 0
  | x :: l => (x.natAbs : Int) + cx l
def cmpR : List Int → List Int → Int
  | [], [] => 0
  | [], _ :: _ => -1
  | _ :: _, [] => 1
  | x :: xs, y :: ys => if Lib.compareInt x y = 0 then cmpR xs ys else Lib.compareInt x y
def orL : List Int → Int
  | [] => 0
  | x :: l => if x = 0 then orL l else x
/-- how spellings are ordered -/
def ordS (s t : Int × List Int) : Int := orL [Lib.compareInt (cx s.2) (cx t.2), Lib.compareInt s.1 t.1, cmpR s.2 t.2]

theorem ci_refl (x : Int) : Lib.compareInt x x = 0 := by unfold Lib.compareInt; simp
theorem ci_eq {x y : Int} (h : Lib.compareInt x y = 0) : x = y := by
  unfold Lib.compareInt at h; split at h
  · omega
  · split at h
    · omega
    · omega
theorem ci_neg (x y : Int) : Lib.compareInt y x = - Lib.compareInt x y := by
  unfold Lib.compareInt; split <;> split <;> (first | omega | (split <;> omega) | skip)
theorem ci_lt {x y : Int} : Lib.compareInt x y < 0 ↔ x < y := by
  unfold Lib.compareInt; split
  · omega
  · split <;> omega

theorem cmpR_refl : ∀ l, cmpR l l = 0
  | [] => rfl
  | x :: l => by rw [cmpR, ci_refl, if_pos rfl, cmpR_refl l]
theorem cmpR_eq : ∀ l m, cmpR l m = 0 → l = m
  | [], [], _ => rfl
  | [], _ :: _, h => by simp [cmpR] at h
  | _ :: _, [], h => by simp [cmpR] at h
  | x :: l, y :: m, h => by
    rw [cmpR] at h
    by_cases e : Lib.compareInt x y = 0
    · rw [if_pos e] at h; rw [ci_eq e, cmpR_eq l m h]
    · rw [if_neg e] at h; exact absurd h e
theorem cmpR_neg : ∀ l m, cmpR m l = - cmpR l m
  | [], [] => rfl
  | [], _ :: _ => rfl
  | _ :: _, [] => rfl
  | x :: l, y :: m => by
    rw [cmpR, cmpR, ci_neg x y, cmpR_neg l m]
    by_cases e : Lib.compareInt x y = 0
    · rw [if_pos e, if_pos (by omega)]
    · rw [if_neg e, if_neg (by omega)]
theorem cmpR_trans : ∀ l m n, cmpR l m < 0 → cmpR m n < 0 → cmpR l n < 0
  | [], [], _, h, _ => by simp [cmpR] at h
  | [], _ :: _, [], _, h => by simp [cmpR] at h
  | [], _ :: _, _ :: _, _, _ => by simp [cmpR]
  | _ :: _, [], _, h, _ => by simp [cmpR] at h
  | _ :: _, _ :: _, [], _, h => by simp [cmpR] at h
  | x :: l, y :: m, z :: n, h, k => by
    rw [cmpR] at h k ⊢
    have a1 := @ci_lt x y
    have a2 := @ci_lt y z
    have a3 := @ci_lt x z
    by_cases e1 : Lib.compareInt x y = 0
    · have e1' := ci_eq e1
      subst e1'
      rw [if_pos e1] at h
      by_cases e2 : Lib.compareInt x z = 0
      · rw [if_pos e2] at k ⊢; exact cmpR_trans l m n h k
      · rw [if_neg e2] at k ⊢; exact k
    · rw [if_neg e1] at h
      by_cases e2 : Lib.compareInt y z = 0
      · have e2' := ci_eq e2
        subst e2'
        rw [if_neg e1]; exact h
      · rw [if_neg e2] at k
        have b : x < z := by have := a1.1 h; have := a2.1 k; omega
        rw [if_neg (fun e => by rw [ci_eq e] at b; omega)]
        exact a3.2 b

theorem ordS_refl (s) : ordS s s = 0 := by simp [ordS, orL, ci_refl, cmpR_refl]
theorem ordS_eq {s t} (h : ordS s t = 0) : s = t := by
  unfold ordS orL orL orL orL at h
  by_cases e1 : Lib.compareInt (cx s.2) (cx t.2) = 0
  · rw [if_pos e1] at h
    by_cases e2 : Lib.compareInt s.1 t.1 = 0
    · rw [if_pos e2] at h
      by_cases e3 : cmpR s.2 t.2 = 0
      · obtain ⟨a, b⟩ := s; obtain ⟨c, d⟩ := t
        have := ci_eq e2; have := cmpR_eq _ _ e3
        simp only at *; subst_vars; rfl
      · rw [if_neg e3] at h; exact absurd h e3
    · rw [if_neg e2] at h; exact absurd h e2
  · rw [if_neg e1] at h; exact absurd h e1
theorem ordS_lt {s t} : ordS s t < 0 ↔ cx s.2 < cx t.2 ∨ (cx s.2 = cx t.2 ∧ (s.1 < t.1 ∨ (s.1 = t.1 ∧ cmpR s.2 t.2 < 0))) := by
  unfold ordS orL orL orL orL
  have a1 := @ci_lt (cx s.2) (cx t.2)
  have a2 := @ci_lt s.1 t.1
  by_cases e1 : Lib.compareInt (cx s.2) (cx t.2) = 0
  · rw [if_pos e1]
    have := ci_eq e1
    by_cases e2 : Lib.compareInt s.1 t.1 = 0
    · rw [if_pos e2]
      have := ci_eq e2
      by_cases e3 : cmpR s.2 t.2 = 0
      · rw [if_pos e3, e3]; omega
      · rw [if_neg e3]; omega
    · rw [if_neg e2]
      have : s.1 ≠ t.1 := fun e => e2 (by rw [e, ci_refl])
      omega
  · rw [if_neg e1]
    have : cx s.2 ≠ cx t.2 := fun e => e1 (by rw [e, ci_refl])
    omega
theorem ordS_neg (s t) : ordS t s = - ordS s t := by
  unfold ordS orL orL orL orL
  rw [ci_neg (cx s.2) (cx t.2), ci_neg s.1 t.1, cmpR_neg s.2 t.2]
  by_cases e1 : Lib.compareInt (cx s.2) (cx t.2) = 0
  · rw [if_pos e1, if_pos (by omega)]
    by_cases e2 : Lib.compareInt s.1 t.1 = 0
    · rw [if_pos e2, if_pos (by omega)]
      by_cases e3 : cmpR s.2 t.2 = 0
      · rw [if_pos e3, if_pos (by omega)]; rfl
      · rw [if_neg e3, if_neg (by omega)]
    · rw [if_neg e2, if_neg (by omega)]
  · rw [if_neg e1, if_neg (by omega)]
theorem ordS_trans {s t u} (h : ordS s t < 0) (k : ordS t u < 0) : ordS s u < 0 := by
  rw [ordS_lt] at *
  have := cmpR_trans s.2 t.2 u.2
  rcases h with h | ⟨h1, h | ⟨h2, h⟩⟩ <;> rcases k with k | ⟨k1, k | ⟨k2, k⟩⟩
  all_goals first | omega | exact .inr ⟨by omega, .inr ⟨by omega, this h k⟩⟩

def ltS (s t : Int × List Int) : Bool := decide (ordS s t < 0)
theorem swoS : SWO (ltOf ordS) where
  irrefl x := by unfold ltOf; rw [ordS_refl]; rfl
  trans x y z h k := by
    unfold ltOf at *
    exact decide_eq_true (ordS_trans (of_decide_eq_true h) (of_decide_eq_true k))
  ntrans x y z h k := by
    unfold ltOf at *
    have h := of_decide_eq_false h
    have k := of_decide_eq_false k
    refine decide_eq_false fun hc => ?_
    have a1 := ordS_neg x y
    have a2 := ordS_neg y z
    by_cases e1 : ordS x y = 0
    · rw [ordS_eq e1] at hc; exact k hc
    · by_cases e2 : ordS y z = 0
      · rw [← ordS_eq e2] at hc; exact h hc
      · have := ordS_trans (s := z) (t := y) (u := x) (by omega) (by omega)
        have := ordS_neg x z
        omega
def stI (s : Nat × List Int) : Int × List Int := ((s.1 : Int), s.2)
theorem stI_inj {s t : Nat × List Int} (h : stI s = stI t) : s = t := by
  obtain ⟨a, b⟩ := s; obtain ⟨c, d⟩ := t
  unfold stI at h; simp at h; obtain ⟨h1, rfl⟩ := h; rw [show a = c by omega]
/-- not behind -/
def leS (s t : Nat × List Int) : Bool := !(ltOf ordS (stI t) (stI s))
def sortS (l : List (Nat × List Int)) : List (Nat × List Int) := l.mergeSort leS
theorem leS_trans (a b c : Nat × List Int) (h : leS a b = true) (k : leS b c = true) : leS a c = true := by
  unfold leS at *
  simp only [Bool.not_eq_true'] at *
  exact swoS.ntrans _ _ _ k h
theorem leS_total (a b : Nat × List Int) : (leS a b || leS b a) = true := by
  unfold leS ltOf
  have := ordS_neg (stI a) (stI b)
  by_cases h : ordS (stI a) (stI b) < 0
  · rw [decide_eq_false (p := ordS (stI b) (stI a) < 0) (by omega)]; rfl
  · rw [decide_eq_false h]; simp
theorem leS_anti {a b : Nat × List Int} (h : leS a b = true) (k : leS b a = true) : a = b := by
  unfold leS ltOf at *
  simp only [Bool.not_eq_true', decide_eq_false_iff_not] at *
  have := ordS_neg (stI a) (stI b)
  exact stI_inj (ordS_eq (by omega))
theorem sortS_perm (l) : (sortS l).Perm l := List.mergeSort_perm _ _
theorem sortS_sorted (l) : (sortS l).Pairwise (fun a b => leS a b = true) := List.pairwise_mergeSort leS_trans leS_total l
/-- what is sorted is what the sort gives -/
theorem sortS_eq {l m : List (Nat × List Int)} (hs : m.Pairwise fun a b => leS a b = true) (hp : m.Perm l) : m = sortS l :=
  List.Perm.eq_of_pairwise (le := fun a b => leS a b = true) (fun _ _ _ _ => leS_anti) hs (sortS_sorted l) (hp.trans (sortS_perm l).symm)
theorem sortS_filter (p : Nat × List Int → Bool) (l) : (sortS l).filter p = sortS (l.filter p) :=
  sortS_eq ((sortS_sorted l).filter p) ((sortS_perm l).filter p)

/-! ### the box -/
def boxL (m n N : Nat) : List (Nat × List Int) := (List.range N).flatMap fun i => (boxC m n).map fun cs => (i, cs)
theorem boxL_succ (m n i : Nat) : boxL m n (i + 1) = boxL m n i ++ (boxC m n).map fun cs => (i, cs) := by
  unfold boxL; rw [List.range_succ, List.flatMap_append]; simp
theorem boxL_mem {m n N : Nat} {s : Nat × List Int} (h : s ∈ boxL m n N) : s.1 < N ∧ s.2.length = n ∧ ∀ c, c ∈ s.2 → -(m : Int) ≤ c ∧ c ≤ m := by
  unfold boxL at h
  obtain ⟨i, hi, h⟩ := List.mem_flatMap.1 h
  obtain ⟨cs, hc, rfl⟩ := List.mem_map.1 h
  exact ⟨List.mem_range.1 hi, boxC_len m n cs hc, boxC_mem m n cs hc⟩
theorem boxL_size (m n N : Nat) : (boxL m n N).length = N * (2 * m + 1) ^ n := by
  induction N with
  | zero => simp [boxL]
  | succ N ih => rw [boxL_succ, List.length_append, ih, List.length_map, boxC_size, Nat.add_mul, Nat.one_mul]

def inB (m : Nat) (cs : List Int) : Bool := cs.all fun c => decide (-(m : Int) ≤ c ∧ c ≤ m)
theorem span_filter (m : Nat) : (spanC (m + 1)).filter (fun c => decide (-(m : Int) ≤ c ∧ c ≤ m)) = spanC m := by
  unfold spanC
  have e : 2 * (m + 1) + 1 = 1 + (2 * m + 1) + 1 := by omega
  rw [e, List.range_add, List.range_add]
  simp only [List.map_append, List.map_map, List.filter_append]
  have h0 : (List.map (fun (k : Nat) => (k : Int) - ((m + 1 : Nat) : Int)) (List.range 1)).filter (fun c => decide (-(m : Int) ≤ c ∧ c ≤ m)) = [] := by
    rw [List.filter_eq_nil_iff]; intro c hc; simp at hc; subst hc; simp; omega
  have h2 : ∀ f : Nat → Int, (∀ k, f k = (k : Int) - ((m + 1 : Nat) : Int) + (1 + (2 * m + 1) : Nat)) → (List.map f (List.range 1)).filter (fun c => decide (-(m : Int) ≤ c ∧ c ≤ m)) = [] := fun f hf => by
    rw [List.filter_eq_nil_iff]; intro c hc; simp at hc; subst hc; rw [hf 0]; simp; omega
  rw [h0, h2 _ (fun k => by simp only [Function.comp]; omega)]
  simp only [List.nil_append, List.append_nil]
  rw [List.filter_eq_self.2]
  · refine List.map_congr_left fun k _ => ?_
    simp only [Function.comp]; omega
  · intro c hc
    obtain ⟨k, hk, rfl⟩ := List.mem_map.1 hc
    have := List.mem_range.1 hk
    simp only [Function.comp]
    refine decide_eq_true ⟨by omega, by omega⟩
theorem boxC_filter (m : Nat) : ∀ n, (boxC (m + 1) n).filter (inB m) = boxC m n
  | 0 => rfl
  | n + 1 => by
    have ih := boxC_filter m n
    have e : ∀ T : List (List Int), (T.flatMap fun t => (spanC (m + 1)).map (· :: t)).filter (inB m) = (T.filter (inB m)).flatMap fun t => (spanC m).map (· :: t) := fun T => by
      induction T with
      | nil => rfl
      | cons t T iT =>
        rw [List.flatMap_cons, List.filter_append, iT, List.filter_map]
        have hc : (inB m ∘ fun x => x :: t) = fun c => (decide (-(m : Int) ≤ c ∧ c ≤ m)) && inB m t := by funext c; simp [inB]
        rw [hc]
        cases ht : inB m t with
        | true =>
          rw [List.filter_cons, ht]
          simp only [Bool.and_true, if_true, List.flatMap_cons]
          rw [span_filter]
        | false =>
          rw [List.filter_cons, ht]
          simp
    rw [boxC, e, ih, boxC]
theorem boxL_filter (m n N : Nat) : (boxL (m + 1) n N).filter (fun s => inB m s.2) = boxL m n N := by
  induction N with
  | zero => rfl
  | succ N ih =>
    rw [boxL_succ, boxL_succ, List.filter_append, ih, List.filter_map]
    congr 1
    have e : ((fun s : Nat × List Int => inB m s.2) ∘ fun cs => (N, cs)) = inB m := rfl
    rw [e, boxC_filter]
theorem boxC_nodup (m : Nat) : ∀ n, (boxC m n).Nodup
  | 0 => by simp [boxC]
  | n + 1 => by
    have ih := boxC_nodup m n
    unfold boxC
    rw [List.nodup_iff_pairwise_ne, List.pairwise_flatMap]
    refine ⟨fun t _ => ?_, (List.nodup_iff_pairwise_ne.1 ih).imp fun {a b} hab x hx y hy e => ?_⟩
    · rw [List.pairwise_map]
      have : (spanC m).Pairwise (· ≠ ·) := by
        unfold spanC
        rw [List.pairwise_map]
        exact List.nodup_range.imp fun {a b} h e => h (by omega)
      exact this.imp fun {a b} h e => h (by injection e)
    · obtain ⟨c, _, rfl⟩ := List.mem_map.1 hx
      obtain ⟨d, _, rfl⟩ := List.mem_map.1 hy
      injection e with _ e
      exact hab e
theorem boxL_nodup (m n N : Nat) : (boxL m n N).Nodup := by
  unfold boxL
  rw [List.nodup_iff_pairwise_ne, List.pairwise_flatMap]
  refine ⟨fun t _ => ?_, List.nodup_range.imp fun {a b} hab x hx y hy e => ?_⟩
  · rw [List.pairwise_map]
    exact (boxC_nodup m n).imp fun {a b} h e => h (by injection e)
  · obtain ⟨c, _, rfl⟩ := List.mem_map.1 hx
    obtain ⟨d, _, rfl⟩ := List.mem_map.1 hy
    injection e with e _
    exact hab e
end Go.Proofs.YtamffndlpminmaaGreatDoor

/- smith.big, unit, wide, kernel, small, Kernel; table.Check. -/
namespace Go.Proofs.YtamffndlpminmaaGreatDoor
open Go.RowKit Go.Lib
attribute [local go_sem ↓] Go.wp_at_zero Go.wp_at_succ

theorem info65 : (Tryz.prog.info? 73).map (fun i => (i.zero, i.size, i.bytes)) = some (some (.string ⟨#[]⟩), 1, 16) := by kernel_rfl
theorem info56 : (Tryz.prog.info? 71).map (fun i => (i.zero, i.size, i.bytes)) = some (some (.slice none 0 0), 1, 24) := by kernel_rfl

/-- a matrix of ints that came in -/
def MatIs (w : World) (a : Option Addr) (m : List (List Int)) : Prop :=
  m = [] ∨ ∃ b o, a = some ⟨b, o, none⟩ ∧ b < w.heap.size ∧ ∀ (i : Nat) (xs : List Int), m[i]? = some xs → ∃ a' c', w.cell? ⟨b, o + i, none⟩ = some (.slice a' xs.length c') ∧ El w iv a' xs
theorem MatIs.fr {w w' : World} {a : Option Addr} {m : List (List Int)} (h : MatIs w a m) (k : Fr w w') : MatIs w' a m := by
  rcases h with h | ⟨b, o, ha, hb, hc⟩
  · exact .inl h
  · refine .inr ⟨b, o, ha, Nat.lt_of_lt_of_le hb k.size, fun i xs hx => ?_⟩
    obtain ⟨a', c', h1, h2⟩ := hc i xs hx
    exact ⟨a', c', k.keep h1, h2.fr k⟩
theorem MatIs.at {w : World} {a : Option Addr} {m : List (List Int)} (h : MatIs w a m) {i : Nat} (hi : i < m.length) :
    ∃ b o a' c', a = some ⟨b, o, none⟩ ∧ w.cell? ⟨b, o + i, none⟩ = some (.slice a' (m[i]).length c') ∧ El w iv a' m[i] := by
  rcases h with h | ⟨b, o, ha, hb, hc⟩
  · subst h; simp at hi
  · obtain ⟨a', c', h1, h2⟩ := hc i _ (List.getElem?_eq_getElem hi)
    exact ⟨b, o, a', c', ha, h1, h2⟩

theorem take_snoc {α : Type} {xs : List α} {k : Nat} {x : α} (h : xs[k]? = some x) : xs.take (k + 1) = xs.take k ++ [x] := by
  rw [List.take_add_one, h]; rfl

def GridRet (w : World) (E : TypeId) (m : List (List Int)) (e : Ending) (w' : World) : Prop := ∃ v hs, e = .returned v ∧ GG w' w.heap.size E v hs m ∧ Hid (∀ h, h ∈ hs → w.heap.size ≤ h.1) ∧ Fr w w'

def GridRet0 (w : World) (E : TypeId) (m : List (List Int)) (e : Ending) (w' : World) : Prop := ∃ v hs, e = .returned v ∧ GG w' w.heap.size E v hs m ∧ Rows0 w' hs m ∧ Hid (∀ h, h ∈ hs → w.heap.size ≤ h.1) ∧ Fr w w'

end Go.Proofs.YtamffndlpminmaaGreatDoor

/- slices.Repeat at one text, smith.unit. -/
namespace Go.Proofs.YtamffndlpminmaaGreatDoor
open Go.RowKit Go.Lib
attribute [local go_sem ↓] Go.wp_at_zero Go.wp_at_succ

theorem size65 : (Tryz.prog.info? 73).map (·.size) = some 1 := by kernel_rfl

theorem Mul_one (n : Nat) (hn : n ≤ 1000000) (w : World) : Calls Tryz.prog 200 #[.int .u64 1, .int .u64 n] w fun e w' => e = .returned (.tuple #[.int .u64 0, .int .u64 n]) ∧ w = w' := by
  have h := Tryz.bits_Mul 1 n (by decide) (by omega) w
  have e1 : 1 * n / 18446744073709551616 = 0 := by omega
  have e2 : 1 * n % 18446744073709551616 = n := by omega
  rw [e1, e2] at h
  exact h.mono fun e w' ⟨he, hw⟩ => ⟨he, hw.symm⟩

theorem ownsRow_whole {w : World} {base : Nat} {e : TypeId} {g n : Nat} {xs : List Value} (h : w.ownsRow base e 1 (.slice (some ⟨g, 0, none⟩) n n) n xs) : w.heap[g]? = some (.cells xs.toArray e (0, 0)) ∧ base ≤ g ∧ xs.length = n := by
  obtain ⟨h1, h2⟩ := h
  rcases h2 with ⟨h2, _⟩ | ⟨g', cap', cur, hv, hg, hh, hn, hc, hs, ht⟩
  · cases h2
  · injection hv with hv1 hv2 hv3
    injection hv1 with hv1; injection hv1 with hv1
    subst hv1; subst hv3
    refine ⟨?_, hg, by simpa using h1⟩
    rw [hh, ← ht, List.take_of_length_le (by simp [hs])]
theorem owns_of_whole {w : World} {base : Nat} {e : TypeId} {g n : Nat} {xs : List Value} (h : w.heap[g]? = some (.cells xs.toArray e (0, 0))) (hb : base ≤ g) (hl : xs.length = n) (hm : n ≤ maxLen) : w.ownsRow base e 1 (.slice (some ⟨g, 0, none⟩) n n) n xs :=
  ⟨by simpa using hl, .inr ⟨g, n, xs.toArray, rfl, hb, h, Nat.le_refl _, hm, by simpa using hl, by rw [← hl]; simp⟩⟩

theorem splice_rep {α : Type} (cur : List α) (z : α) (k m n : Nat) (hl : cur.length = n) (hk : cur.take k = List.replicate k z) (hm : k + m ≤ n) : (splice cur k (List.replicate m z)).length = n ∧ (splice cur k (List.replicate m z)).take (k + m) = List.replicate (k + m) z := by
  refine ⟨by rw [length_splice _ _ _ (by simp; omega), hl], ?_⟩
  unfold splice
  have h1 : (cur.take k).length = k := by rw [List.length_take]; omega
  rw [hk, List.take_append, List.length_replicate, Nat.add_sub_cancel_left, List.take_of_length_le (by simp), List.take_append, List.length_replicate, Nat.sub_self, List.take_zero, List.append_nil, List.take_of_length_le (by simp), List.replicate_append_replicate]

theorem one_at {w : World} {b o : Nat} {v : Value} (h : w.cell? ⟨b, o, none⟩ = some v) : ∀ j u, [v][j]? = some u → w.cell? ((⟨b, o, none⟩ : Addr).add j) = some u := fun j u hu => by
  cases j with
  | zero => simp at hu; subst hu; simpa [Addr.add] using h
  | succ j => simp at hu

theorem rep_at {w : World} {g k m : Nat} {cur : List Value} {v : Value} {e : TypeId} (h : w.heap[g]? = some (.cells cur.toArray e (0, 0))) (ht : cur.take k = List.replicate k v) : ∀ j u, (List.replicate (min k m) v)[j]? = some u → w.cell? ((⟨g, 0, none⟩ : Addr).add j) = some u := fun j u hu => by
  rw [List.getElem?_replicate] at hu
  split at hu
  · injection hu with hu; subst hu
    have hj : cur[j]? = some v := by
      have : (cur.take k)[j]? = some v := by rw [ht, List.getElem?_replicate, if_pos (by omega)]
      rw [List.getElem?_take] at this
      split at this
      · exact this
      · simp at this
    have e1 : ((⟨g, 0, none⟩ : Addr).add j) = ⟨g, j, none⟩ := by unfold Addr.add; split <;> simp_all
    rw [e1]
    simp [World.cell?, h, hj]
  · simp at hu

theorem rep_one (m : Nat) (z : Int) : ∀ v ∈ List.replicate m (sv z), v.oneCell' = true := fun v h => by rw [List.eq_of_mem_replicate h]; rfl

def RepPost (w : World) (n : Nat) (xs : List Value) (e : Ending) (w' : World) : Prop := ∃ g c, e = .returned (.slice (some ⟨g, 0, none⟩) n c) ∧ Fr w w' ∧ w'.ownsRow w.heap.size 73 1 (.slice (some ⟨g, 0, none⟩) n c) n xs

set_option maxRecDepth 100000 in
set_option maxHeartbeats 2000000 in
theorem Repeat_one (b o cp n : Nat) (z : Int) (w : World) (hn1 : 1 ≤ n) (hn2 : n ≤ 1000000) (hc : w.cell? ⟨b, o, none⟩ = some (sv z)) :
    Calls Tryz.prog 204 #[.slice (some ⟨b, o, none⟩) 1 cp, .int .i64 n] w (RepPost w n (List.replicate n (sv z))) := by
  obtain ⟨i0, hi, hz0, hz1, hz2⟩ := info_parts info65
  go_enter Tryz.func204, Tryz.ntmps204
  go_wp2_with fail
  refine (Mul_one n hn2 _).mono ?_; rintro e w' ⟨rfl, rfl⟩
  go_wp2_with (first | (at_make; refine wpList_make_full _ rfl _ _ 71 rfl w.heap.size 73 i0 _ 1 Tryz.underlying71 hi hz0 hz1 _ _ _ _ n (by rfl) (by rfl) (by omega) (by omega) (by rw [hz2]; omega) (by unfold maxLen; omega) (Nat.le_refl _) ?_; intro w2 hown2 hgr2; obtain ⟨hw2, -, hlen2⟩ := ownsRow_whole hown2; have hf2 := (Fr.refl w).grown hgr2 (fun k e => by cases e); generalize (madeCells (Value.cells (Value.string ⟨#[]⟩)) (n * 1)).toList = L at hown2 hw2 hlen2; replace hw2 := Lib.hid hw2; replace hlen2 := Lib.hid hlen2; have hc2 := hf2.keep hc; have hfB : Below w.heap.size w w2 := hf2) | ((with_reducible refine wpList_copy_splice (o := ⟨some 33, _, _, _, _, _⟩) rfl (.tmp 31) (.tmp 32) 71 71 ?ho 73 Tryz.underlying71 size65 (some ⟨w.heap.size, 0, none⟩) (some ⟨b, o, none⟩) n n 1 cp ?hd ?hs w.heap.size 0 L 73 hw2.out [sv z] ?hn ?hpos ?hfit ?h1 w.heap.size w hfB (Nat.le_refl _) ?_); (try case ho => rfl); (try case hd => rfl); (try case hs => rfl); (case hn => exact (Nat.min_eq_left hn1).symm); (case hpos => exact fun _ => ⟨rfl, _, rfl, one_at hc2⟩); (case hfit => have := hlen2.out; simp; omega); (case h1 => simp [Value.oneCell']); intro w3 hw3 hf3))
  have hst := splice_rep L (sv z) 0 1 n hlen2.out (by simp) (by omega)
  replace hst := Lib.hid hst
  clear hown2 hw2 hc2 hfB hgr2 hf2
  go_loopg [8] n (fun m s8 wr => ∃ (k : Nat) (cur : List Value), s8 = .int .i64 k ∧ 1 ≤ k ∧ k ≤ n ∧ n - k ≤ m ∧ Hid (wr.heap[w.heap.size]? = some (.cells cur.toArray 73 (0, 0))) ∧ Hid (cur.length = n) ∧ Hid (cur.take k = List.replicate k (sv z)) ∧ Fr w wr)
  case atStart => exact ⟨1, splice L 0 [sv z], rfl, by omega, by omega, by omega, hw3, hst.out.1, hst.out.2, hf3⟩
  case round =>
    clear hw3 hf3 hst
    obtain ⟨k, cur, rfl, hk1, hk2, hm, hw, hlc, htk, hf⟩ := hrel
    by_cases hlt : k < n
    · have z0 : (0 : Int) ≤ (k : Int) := Int.natCast_nonneg _
      have z1 : (k : Int) ≤ (n : Int) := by omega
      have zne : ¬ n = k := by omega
      obtain ⟨c, hce⟩ : ∃ c, c = min k (n - k) := ⟨_, rfl⟩
      have hc1 : 1 ≤ c := by omega
      have hc2 : k + c ≤ n := by omega
      replace hce := Lib.hid hce
      go_wp2_with fail
      have hBw : Below w.heap.size w wr.drew := hf.drew
      have hww : wr.drew.heap[w.heap.size]? = some (.cells cur.toArray 73 (0, 0)) := hw.out
      have hcs : ∀ j u, (List.replicate c (sv z))[j]? = some u → wr.drew.cell? ((⟨w.heap.size, 0, none⟩ : Addr).add j) = some u := by rw [hce.out]; exact rep_at hww htk.out
      replace hww := Lib.hid hww
      replace hcs := Lib.hid hcs
      go_region_held3 (fun _ => True) (exact trivial) ((refine step_copy_splice (by rfl) (.tmp 41) (.tmp 44) 71 71 (by rfl) 73 Tryz.underlying71 size65 (some ⟨w.heap.size, k, none⟩) (some ⟨w.heap.size, 0, none⟩) (n - k) (n - k) k n (by rfl) (by rfl) w.heap.size k cur 73 hww.out (List.replicate c (sv z)) (by rw [List.length_replicate]; exact hce.out) (fun _ => ⟨rfl, _, rfl, hcs.out⟩) (by have := hlc.out; simp; omega) (rep_one _ _) w.heap.size w hBw (Nat.le_refl _) ?_; intro w4 hw4 hf4))
      have hsp := splice_rep cur (sv z) k c n hlc.out htk.out hc2
      go_wp2_with fail
      go_roundg (gk - 1)
      case measure => omega
      case rel => exact ⟨k + c, splice cur k (List.replicate c (sv z)), by simp; exact IntWalk.i64_in _ (by omega), by omega, by omega, by omega, hw4, hsp.1, hsp.2, hf4⟩
    · have hd : decide (k < n) = false := decide_eq_false hlt
      obtain rfl : k = n := by omega
      have hcur : cur = List.replicate k (sv z) := by have := htk.out; rw [List.take_of_length_le (by rw [hlc.out]; omega)] at this; exact this
      replace hcur := Lib.hid hcur
      go_wp2_with fail
      go_ret
      exact ⟨_, _, rfl, hf, by have h := hw.out; rw [hcur.out] at h; exact owns_of_whole h (Nat.le_refl _) (by simp) (by unfold maxLen; omega)⟩

/-- the rows of a unit matrix -/
def unitRow (n i : Nat) : List Int := (List.replicate n 0).set i 1
def unitM (n : Nat) : List (List Int) := (List.range n).map (unitRow n)

end Go.Proofs.YtamffndlpminmaaGreatDoor

/- smith.wide, kernel, small, Kernel. -/
namespace Go.Proofs.YtamffndlpminmaaGreatDoor
open Go.RowKit Go.Lib
attribute [local go_sem ↓] Go.wp_at_zero Go.wp_at_succ

def wideM (m : List (List Int)) : List (List Int) := List.zipWith (· ++ ·) m (unitM m.length)

def WidePost (w : World) (tF n1 c : Nat) (gF : List (List Int)) (e : Ending) (w' : World) : Prop :=
  ∃ ob oc hs, e = .returned (.tuple #[.slice (some ⟨ob, 0, none⟩) tF oc, .int .i64 c]) ∧ GridIs w' ob 0 hs gF ∧ (∀ h, h ∈ hs → n1 ≤ h.2.2) ∧ Rect n1 gF ∧ tF ≤ gF.length ∧ gF.length ≤ 1000 ∧ Fr w w'

/-- rows that have not been reached yet -/
def RowsFrom (w : World) (A B j : Nat) (hs : List (Nat × Nat × Nat)) (g : List (List Int)) : Prop :=
  ∀ (i : Nat) (h : Nat × Nat × Nat) (xs : List Int), j ≤ i → hs[i]? = some h → g[i]? = some xs → h.2.1 = 0 ∧ A ≤ h.1 ∧ h.1 < B ∧ w.ownsRow gN 73 1 (.slice (some ⟨h.1, 0, none⟩) xs.length h.2.2) xs.length (xs.map sv)

theorem unitM_get {n i : Nat} (h : i < n) : (unitM n)[i]? = some (unitRow n i) := by simp [unitM, List.getElem?_range h]
theorem unitM_len (n : Nat) : (unitM n).length = n := by simp [unitM]
theorem unitRow_len (n i : Nat) : (unitRow n i).length = n := by simp [unitRow]
theorem wideM_len (m : List (List Int)) : (wideM m).length = m.length := by simp [wideM, unitM_len]
theorem wideM_get {m : List (List Int)} {i : Nat} (h : i < m.length) : (wideM m)[i]? = some (m[i] ++ unitRow m.length i) := by
  unfold wideM; rw [List.getElem?_zipWith, List.getElem?_eq_getElem h, unitM_get h]
theorem wideM_rect {m : List (List Int)} {n : Nat} (h : Rect n m) : Rect (n + m.length) (wideM m) := fun r hr => by
  obtain ⟨i, hi⟩ := List.getElem?_of_mem hr
  have hl : i < m.length := by rw [← wideM_len]; exact (List.getElem?_eq_some_iff.1 hi).1
  rw [wideM_get hl] at hi
  injection hi with hi
  rw [← hi, List.length_append, h.row hl, unitRow_len]

end Go.Proofs.YtamffndlpminmaaGreatDoor

/- smith.kernel, small, Kernel; table.Check. -/
namespace Go.Proofs.YtamffndlpminmaaGreatDoor
open Go.RowKit Go.Lib
attribute [local go_sem ↓] Go.wp_at_zero Go.wp_at_succ

/-- the right parts of the rows whose left part is zero -/
def kerTo (n : Nat) (g : List (List Int)) : List (List Int) := (g.filter (fun l => decide ((n : Int) ≤ leadS l))).map (·.drop n)
theorem kerTo_snoc (n : Nat) (g : List (List Int)) (l : List Int) : kerTo n (g ++ [l]) = kerTo n g ++ if (n : Int) ≤ leadS l then [l.drop n] else [] := by
  unfold kerTo
  rw [List.filter_append, List.map_append]
  by_cases h : (n : Int) ≤ leadS l <;> simp [h]

theorem Own.el {w : World} {b o : Nat} {xs : List Int} (h : Own w b o xs) : El w sv (some ⟨b, o, none⟩) xs :=
  .inr ⟨b, o, rfl, h.2.1, fun i x hx => (h.2.2 i x hx).1⟩
theorem Own.drop {w : World} {b o : Nat} {xs : List Int} (h : Own w b o xs) (n : Nat) : Own w b (o + n) (xs.drop n) :=
  ⟨h.1, h.2.1, fun j x hx => by rw [List.getElem?_drop] at hx; have := h.2.2 (n + j) x hx; rw [show o + n + j = o + (n + j) by omega]; exact this⟩

def KerPost (w : World) (g : List (List Int)) (e : Ending) (w' : World) : Prop := ∃ v hs, e = .returned v ∧ GG w' w.heap.size 71 v hs g ∧ Fr w w'

end Go.Proofs.YtamffndlpminmaaGreatDoor

/- The same for rows of ints. -/
namespace Go.Proofs.YtamffndlpminmaaGreatDoor
open Go.RowKit Go.Lib

/-- a row of ints that the call has made -/
def OwnI (w : World) (b o : Nat) (xs : List Int) : Prop :=
  gN ≤ b ∧ b < w.heap.size ∧ ∀ j x, xs[j]? = some x → w.cell? ⟨b, o + j, none⟩ = some (iv x) ∧ w.frozen? ⟨b, o + j, none⟩ = false
theorem OwnI.fx {p : Nat → Prop} {w w' : World} {b o : Nat} {xs : List Int} (h : OwnI w b o xs) (k : Fx p w w') (hp : ¬ p b) : OwnI w' b o xs :=
  ⟨h.1, Nat.lt_of_lt_of_le h.2.1 k.size, fun j x hx => by rw [k.cell h.2.1 hp, k.frozen h.2.1 hp]; exact h.2.2 j x hx⟩
theorem OwnI.fr {w w' : World} {b o : Nat} {xs : List Int} (h : OwnI w b o xs) (k : Fr w w') : OwnI w' b o xs :=
  h.fx (p := fun _ => False) (Fx.of_fr k) (fun e => e)
theorem OwnI.el {w : World} {b o : Nat} {xs : List Int} (h : OwnI w b o xs) : El w iv (some ⟨b, o, none⟩) xs :=
  .inr ⟨b, o, rfl, h.2.1, fun i x hx => (h.2.2 i x hx).1⟩
/-- a row of integer texts that the call has made -/
theorem ownsRow_ownI {w : World} {base : Nat} {e : TypeId} {g n m cap : Nat} {xs : List Int} (hb : gN ≤ base) (h : w.ownsRow base e 1 (.slice (some ⟨g, 0, none⟩) n cap) m (xs.map iv)) : OwnI w g 0 xs ∧ n = m ∧ m = xs.length ∧ base ≤ g ∧ n ≤ cap := by
  have h1 := h.1
  obtain ⟨a, b, c, d, f⟩ := ownsRow_some h
  refine ⟨⟨by omega, c, fun j x hx => ?_⟩, a, by simpa using h1.symm, b, d⟩
  have := f j (iv x) (by rw [List.getElem?_map, hx]; rfl)
  simpa using this

structure GI (w : World) (base : Nat) (E : TypeId) (v : Value) (hs : List (Nat × Nat × Nat)) (g : List (List Int)) : Prop where
  gbase : gN ≤ base
  len : hs.length = g.length
  own : w.ownsRow base E 1 v g.length (hdrs hs g)
  row : ∀ (i : Nat) (h : Nat × Nat × Nat) (xs : List Int), hs[i]? = some h → g[i]? = some xs → OwnI w h.1 h.2.1 xs ∧ v.ownBlock ≠ some h.1
  apart : ∀ (i j : Nat) (hi hj : Nat × Nat × Nat), hs[i]? = some hi → hs[j]? = some hj → i ≠ j → hi.1 ≠ hj.1

theorem GI.nil (w : World) (base : Nat) (E : TypeId) (h : gN ≤ base) : GI w base E (.slice none 0 0) [] [] :=
  ⟨h, rfl, World.ownsRow_nil _ _ _ _, fun i h xs h1 => by simp at h1, fun i j hi hj h1 => by simp at h1⟩
theorem GI.fr {w w' : World} {base : Nat} {E : TypeId} {v : Value} {hs : List (Nat × Nat × Nat)} {g : List (List Int)} (h : GI w base E v hs g) (k : Fr w w') : GI w' base E v hs g :=
  ⟨h.gbase, h.len, ownsRow_fr h.own k, fun i hd xs h1 h2 => ⟨(h.row i hd xs h1 h2).1.fr k, (h.row i hd xs h1 h2).2⟩, h.apart⟩
theorem GI.lt {w : World} {base : Nat} {E : TypeId} {v : Value} {hs : List (Nat × Nat × Nat)} {g : List (List Int)} (h : GI w base E v hs g) : ∀ hd, hd ∈ hs → hd.1 < w.heap.size := fun hd hm => by
  obtain ⟨i, hi⟩ := List.getElem?_of_mem hm
  have hl : i < g.length := by rw [← h.len]; exact (List.getElem?_eq_some_iff.1 hi).1
  exact (h.row i hd _ hi (List.getElem?_eq_getElem hl)).1.2.1
/-- behind an append of a row's header -/
theorem GI.push {w w' : World} {base : Nat} {E : TypeId} {v : Value} {hs : List (Nat × Nat × Nat)} {g : List (List Int)} (h : GI w base E v hs g) {hd : Nat × Nat × Nat} {xs : List Int} (ho : OwnI w hd.1 hd.2.1 xs)
    (hne : ∀ h', h' ∈ hs → h'.1 ≠ hd.1) (hv : v.ownBlock ≠ some hd.1) {gb cap : Nat} (hown : w'.ownsRow base E 1 (.slice (some ⟨gb, 0, none⟩) (g.length + 1) cap) (g.length + 1) (hdrs hs g ++ [hdr hd xs]))
    (hg : w.grownBy w' v.ownBlock) (hat : v.ownBlock = some gb ∨ w.heap.size ≤ gb) : GI w' base E (.slice (some ⟨gb, 0, none⟩) (g.length + 1) cap) (hs ++ [hd]) (g ++ [xs]) := by
  have hfx := Fx.of_grown hg
  have hrow : ∀ (i : Nat) (h0 : Nat × Nat × Nat) (ys : List Int), hs[i]? = some h0 → g[i]? = some ys → OwnI w' h0.1 h0.2.1 ys ∧ gb ≠ h0.1 := fun i h0 ys h1 h2 => by
    obtain ⟨a, b⟩ := h.row i h0 ys h1 h2
    refine ⟨a.fx hfx (fun e => b e), ?_⟩
    rcases hat with e | e
    · intro e2; rw [e2] at e; exact b e
    · have := a.2.1; omega
  refine ⟨h.gbase, by simp [h.len], ?_, fun i h0 ys h1 h2 => ?_, fun i j hi hj h1 h2 hij => ?_⟩
  · rw [hdrs_push _ _ _ _ h.len]; simpa using hown
  · by_cases hi : i < g.length
    · rw [List.getElem?_append_left (by rw [h.len]; exact hi)] at h1
      rw [List.getElem?_append_left hi] at h2
      obtain ⟨a, b⟩ := hrow i h0 ys h1 h2
      exact ⟨a, fun e => by injection e with e; exact b e⟩
    · rw [List.getElem?_append_right (by omega)] at h2
      rw [List.getElem?_append_right (by rw [h.len]; omega)] at h1
      rw [List.getElem?_singleton] at h1 h2
      split at h1
      · split at h2
        · injection h1 with h1; injection h2 with h2; subst h1; subst h2
          refine ⟨ho.fx hfx (fun e => hv e), fun e => ?_⟩
          injection e with e
          rcases hat with e2 | e2
          · have e3 : gb = hd.1 := e
            rw [e3] at e2; exact hv e2
          · have := ho.2.1
            have e3 : gb = hd.1 := e
            omega
        · simp at h2
      · simp at h1
  · have key : ∀ (i : Nat) (h0 : Nat × Nat × Nat), (hs ++ [hd])[i]? = some h0 → (i < hs.length ∧ hs[i]? = some h0) ∨ (i = hs.length ∧ h0 = hd) := fun i h0 h => by
      by_cases hi : i < hs.length
      · rw [List.getElem?_append_left hi] at h; exact .inl ⟨hi, h⟩
      · rw [List.getElem?_append_right (by omega), List.getElem?_singleton] at h
        split at h
        · injection h with h; exact .inr ⟨by omega, h.symm⟩
        · simp at h
    rcases key i hi h1 with ⟨a1, a2⟩ | ⟨a1, a2⟩ <;> rcases key j hj h2 with ⟨b1, b2⟩ | ⟨b1, b2⟩
    · exact h.apart i j _ _ a2 b2 hij
    · subst b2; exact hne _ (List.mem_of_getElem? a2)
    · subst a2; exact (hne _ (List.mem_of_getElem? b2)).symm
    · omega

theorem GI.pushN {w w' : World} {base : Nat} {E : TypeId} {v u : Value} {hs : List (Nat × Nat × Nat)} {g : List (List Int)} (h : GI w base E v hs g) {hd : Nat × Nat × Nat} {xs : List Int} (ho : OwnI w hd.1 hd.2.1 xs)
    (hne : ∀ h', h' ∈ hs → h'.1 ≠ hd.1) (hv : v.ownBlock ≠ some hd.1) {gb cap n : Nat} (hn : g.length = n) (hu : u = hdr hd xs) (hown : w'.ownsRow base E 1 (.slice (some ⟨gb, 0, none⟩) (n + 1) cap) (n + 1) (hdrs hs g ++ [u]))
    (hg : w.grownBy w' v.ownBlock) (hat : v.ownBlock = some gb ∨ w.heap.size ≤ gb) : GI w' base E (.slice (some ⟨gb, 0, none⟩) (n + 1) cap) (hs ++ [hd]) (g ++ [xs]) := by
  subst hn; subst hu
  exact h.push ho hne hv hown hg hat


theorem ownsRow_slice {w : World} {base : Nat} {e : TypeId} {size : Nat} {v : Value} {n : Nat} {xs : List Value} (h : w.ownsRow base e size v n xs) : ∃ a c, v = .slice a n c ∧ (n = 0 ∨ ∃ g, a = some ⟨g, 0, none⟩) := by
  obtain ⟨_, h2⟩ := h
  rcases h2 with ⟨hv, h2⟩ | ⟨g, cap, _, hv, _⟩
  · subst h2; exact ⟨none, 0, hv, .inl rfl⟩
  · exact ⟨_, cap, hv, .inr ⟨g, rfl⟩⟩

theorem GI.fx {w w' : World} {p : Nat → Prop} {base : Nat} {E : TypeId} {v : Value} {hs : List (Nat × Nat × Nat)} {g : List (List Int)} (h : GI w base E v hs g) (k : Fx p w w') (hp : ∀ b, v.ownBlock = some b → ¬ p b) (hr : ∀ hd, hd ∈ hs → ¬ p hd.1) : GI w' base E v hs g :=
  ⟨h.gbase, h.len, ownsRow_fx h.own k hp, fun i hd xs h1 h2 => ⟨(h.row i hd xs h1 h2).1.fx k (hr hd (List.mem_of_getElem? h1)), (h.row i hd xs h1 h2).2⟩, h.apart⟩

theorem GI.mat {w : World} {base n : Nat} {E : TypeId} {a : Option Addr} {c : Nat} {hs : List (Nat × Nat × Nat)} {g : List (List Int)} (h : GI w base E (.slice a n c) hs g) : MatIs w a g := by
  by_cases h0 : g.length = 0
  · exact .inl (List.eq_nil_of_length_eq_zero h0)
  · obtain ⟨gb, cp, hv⟩ := ownsRow_pos h.own (by omega)
    injection hv with hv1 hv2 hv3
    subst hv1; subst hv2; subst hv3
    obtain ⟨p1, p2, p3, p4, p5⟩ := ownsRow_some h.own
    refine .inr ⟨gb, 0, rfl, p3, fun i xs hx => ?_⟩
    have hl : i < hs.length := by rw [h.len]; exact (List.getElem?_eq_some_iff.1 hx).1
    have hi := List.getElem?_eq_getElem hl
    have hc := p5 i (hdr hs[i] xs) (by unfold hdrs; rw [List.getElem?_zipWith, hi, hx])
    exact ⟨_, _, by rw [Nat.zero_add]; exact hc.1, (h.row i _ _ hi hx).1.el⟩

theorem ownsRow_empty (w : World) (base : Nat) (e : TypeId) (size : Nat) (hb : base ≤ w.heap.size) : (w.alloc (.cells #[] e)).ownsRow base e size (.slice (some ⟨w.heap.size, 0, none⟩) 0 0) 0 [] :=
  ⟨by simp, .inr ⟨w.heap.size, 0, #[], rfl, hb, heap_alloc_new w _, Nat.le_refl _, by unfold maxLen; omega, by simp, by simp⟩⟩
end Go.Proofs.YtamffndlpminmaaGreatDoor

/- smith.small, Kernel; table.Check. -/
namespace Go.Proofs.YtamffndlpminmaaGreatDoor
open Go.RowKit Go.Lib
attribute [local go_sem ↓] Go.wp_at_zero Go.wp_at_succ

theorem infoInt : (Tryz.prog.info? 3).map (fun i => (i.zero, i.size, i.bytes)) = some (some (.int .i64 0), 1, 8) := by kernel_rfl
theorem infoRow : (Tryz.prog.info? 29).map (fun i => (i.zero, i.size, i.bytes)) = some (some (.slice none 0 0), 1, 24) := by kernel_rfl

theorem ownsRow_nn {w : World} {base : Nat} {e : TypeId} {size : Nat} {v : Value} {n : Nat} {xs : List Value} (h : w.ownsRow base e size v n xs) (hn : v ≠ .slice none 0 0) : ∃ g cap, v = .slice (some ⟨g, 0, none⟩) n cap := by
  obtain ⟨_, h2⟩ := h
  rcases h2 with ⟨h2, _⟩ | ⟨g, cap, _, hv, _⟩
  · exact absurd h2 hn
  · exact ⟨g, cap, hv⟩

/-- a matrix and no error -/
def MatRet (w : World) (g : List (List Int)) (e : Ending) (w' : World) : Prop := ∃ a c, e = .returned (.tuple #[.slice a g.length c, .int .i64 0]) ∧ MatIs w' a g ∧ Fr w w'

/-! ### table.Check -/
def great (n : Int) : Bool := decide (1000000000 < n ∨ n < -1000000000)
def tabE1 (n0 : Nat) : List (List Int) → Int
  | [] => 0
  | r :: l => if 12 < r.length then 4 else if r.length ≠ n0 then 5 else if r.any (fun x => !fitB x) then 4 else tabE1 n0 l
def tabE (m : List (List Int)) : Int := if 12 < m.length then 4 else tabE1 (rowAt m 0).length m

theorem great_any (n : Int) (w : World) : Calls Tryz.prog 172 #[.int .i64 n] w fun e w' => e = .returned (.bool (!fitB n)) ∧ w = w' := by
  by_cases h1 : 1000000000 < n
  · have hf := Lib.hid (show (!fitB n) = true by unfold fitB; rw [decide_eq_false (by omega)]; rfl)
    have d1 : decide ((1000000000 : Int) < n) = true := decide_eq_true h1
    clear h1
    go_enter Tryz.func172, Tryz.ntmps172
    go_wp2_with fail
    go_ret
    exact ⟨ret_bool hf.out.symm, rfl⟩
  · have d1 : decide ((1000000000 : Int) < n) = false := decide_eq_false h1
    by_cases h2 : n < -1000000000
    · have hf := Lib.hid (show (!fitB n) = true by unfold fitB; rw [decide_eq_false (by omega)]; rfl)
      have d2 : decide (n < -1000000000) = true := decide_eq_true h2
      clear h1 h2
      go_enter Tryz.func172, Tryz.ntmps172
      go_wp2_with fail
      go_ret
      exact ⟨ret_bool hf.out.symm, rfl⟩
    · have hf := Lib.hid (show (!fitB n) = false by unfold fitB; rw [decide_eq_true (by omega)]; rfl)
      have d2 : decide (n < -1000000000) = false := decide_eq_false h2
      clear h1 h2
      go_enter Tryz.func172, Tryz.ntmps172
      go_wp2_with fail
      go_ret
      exact ⟨ret_bool hf.out.symm, rfl⟩
theorem great_pred (w : World) (xs : List Int) : Pred w 172 #[] iv (fun n => !fitB n) xs := fun x W _ _ =>
  (great_any x W).mono fun _ _ ⟨h, k⟩ => ⟨h, Fr.of_eq k⟩

/-- a right matrix of some columns -/
def TabOk (n : Nat) (m : List (List Int)) : Prop := m.length ≤ 12 ∧ n ≤ 12 ∧ Rect n m ∧ ∀ r, r ∈ m → ∀ x, x ∈ r → fitB x = true

set_option maxHeartbeats 4000000 in
theorem tabCheck_ok (m : List (List Int)) (a : Option Addr) (cap n : Nat) (w : World) (hm : MatIs w a m) (hok : TabOk n m) :
    Calls Tryz.prog 116 #[.slice a m.length cap] w fun e w' => e = .returned (.int .i64 0) ∧ Fr w w' := by
  obtain ⟨h1, h2, h3, h4⟩ := hok
  replace hm := Lib.hid hm
  replace h3 := Lib.hid h3
  replace h4 := Lib.hid h4
  go_enter Tryz.func116, Tryz.ntmps116
  go_wp2_with fail
  go_loopg [10] m.length (fun k s10 wr => ∃ j : Nat, s10 = .int .i64 j ∧ j + k = m.length ∧ Fr w wr)
  case atStart => exact ⟨0, rfl, by omega, Fr.refl _⟩
  case round =>
    obtain ⟨j, rfl, hjk, hf⟩ := hrel
    by_cases hlt : j < m.length
    · obtain ⟨b, o, a', c', rfl, hc, hel⟩ := (hm.out.fr hf).at hlt
      obtain ⟨b9, o9, a9, c9, hae, hc9, hel9⟩ := (hm.out.fr hf).at (i := 0) (by omega)
      injection hae with hae; injection hae with hb9 ho9
      subst hb9; subst ho9
      rw [h3.out.row hlt] at hc
      rw [h3.out.row (i := 0) (by omega), Nat.add_zero] at hc9
      have hany : (m[j]).any (fun x => !fitB x) = false := List.any_eq_false.2 (fun x hx => by rw [h4.out _ (List.getElem_mem hlt) x hx]; simp)
      have eg : ∀ args w, (callFunc 172 args).run Tryz.prog w = .ok (.enter 172 args) w := enters_of Tryz.func172 (by kernel_rfl) rfl
      have hcf := ContainsFunc_row m[j] a' c' 172 #[] (fun n => !fitB n) wr eg hel (by rw [h3.out.row hlt]; omega) (great_pred wr _)
      rw [h3.out.row hlt, hany] at hcf
      clear eg hel hel9 hany
      have z0 : (0 : Int) ≤ (j : Int) := Int.natCast_nonneg _
      have z1 : (j : Int) < (m.length : Int) := by omega
      go_wp2_with fail
      refine hcf.mono ?_
      clear hcf
      rintro e w2 ⟨rfl, hf2⟩
      go_wp2_with fail
      go_roundg (gk - 1)
      case measure => omega
      case rel => exact ⟨j + 1, by go_num, by omega, hf.trans hf2⟩
    · have hd : decide (j < m.length) = false := decide_eq_false hlt
      go_wp2_with fail
      go_ret
      exact ⟨rfl, hf⟩
end Go.Proofs.YtamffndlpminmaaGreatDoor

/- slices.Clone at a row. -/
namespace Go.Proofs.YtamffndlpminmaaGreatDoor
open Go.RowKit Go.Lib Go.Shelf
def layClone_row_ren : Go.Shelf.Ren := ⟨fun | 41 => 58 | n => n, fun | 22 => 29 | 23 => 3 | 4 => 4 | n => n, fun | n => n⟩
theorem layClone_row : Go.Proofs.SlLaysE0.n41 Tryz.prog layClone_row_ren := {
  mixed := by kernel_rfl
  f41 := ⟨Tryz.f58.name, by decide, Tryz.func58.trans (congrArg some (by kernel_rfl))⟩
  t4 := Tryz.underlying4
  a4 := Tryz.isAgg4
  z4 := Tryz.sizeOf4
  v4 := Tryz.zeroValue4
  t22 := Tryz.underlying29
  a22 := Tryz.isAgg29
  z22 := Tryz.sizeOf29
  v22 := Tryz.zeroValue29 }
def RowRetN (w : World) (xs : List Int) (e : Ending) (w' : World) : Prop := ∃ g c, e = .returned (.slice (some ⟨g, 0, none⟩) xs.length c) ∧ Fr w w' ∧ w'.ownsRow w.heap.size 3 1 (.slice (some ⟨g, 0, none⟩) xs.length c) xs.length (xs.map iv)

set_option maxRecDepth 100000 in
theorem Clone_row (b o c : Nat) (xs : List Int) (w : World) (hl : xs.length ≤ 1000000) (hc : ∀ (j : Nat) (x : Int), xs[j]? = some x → w.cell? ⟨b, o + j, none⟩ = some (iv x)) :
    Calls Tryz.prog 58 #[.slice (some ⟨b, o, none⟩) xs.length c] w (RowRetN w xs) := by
  obtain ⟨i0, hi, hz0, hz1, hz2⟩ := info_parts infoInt
  refine (AnyE.slices_Clone layClone_row i0 _ 1 8 hi hz0 hz1 hz2 rfl (by decide) Tryz.sizeOf3 b o xs.length c (xs.map iv) w (by simp) (by unfold maxLen; omega) (by omega) (fun j u h => ?_) (fun u h => ?_)).mono ?_
  · rw [List.getElem?_map] at h
    cases hx : xs[j]? with
    | none => rw [hx] at h; simp at h
    | some x => rw [hx] at h; injection h with h; rw [← h]; exact hc j x hx
  · obtain ⟨x, -, rfl⟩ := List.mem_map.1 h; rfl
  · rintro e w' ⟨v', rfl, hown, hne, hb⟩
    have h2 := hown.2
    rcases h2 with ⟨h0, -⟩ | ⟨g, cap, _, hv, _⟩
    · exact absurd h0 hne
    · subst hv
      exact ⟨g, cap, rfl, hb, hown⟩
end Go.Proofs.YtamffndlpminmaaGreatDoor

/- spelling.box: what its iterator yields. -/
namespace Go.Proofs.YtamffndlpminmaaGreatDoor
open Go.RowKit Go.Lib Go.Shelf
attribute [local go_sem] Oper.semAt_some

/-- what is yielded: the nominal's index, the counts, where these lie -/
structure BX where
  i : Nat
  cs : List Int
  g : Nat
  c : Nat
def BX.enc (x : BX) : Value := .agg #[.int .i64 x.i, .slice (some ⟨x.g, 0, none⟩) x.cs.length x.c]
def stripX (x : BX) : Nat × List Int := (x.i, x.cs)
/-- a row of ints in a block of its own -/
def RowAt (W : World) (x : BX) : Prop := (∃ cur, W.heap[x.g]? = some (.cells cur 3 (0, 0))) ∧ El W iv (some ⟨x.g, 0, none⟩) x.cs
theorem El.fx {α : Type} {w w' : World} {enc : α → Value} {b o : Nat} {xs : List α} {p : Nat → Prop} (h : El w enc (some ⟨b, o, none⟩) xs) (k : Fx p w w') (hp : ¬ p b) : El w' enc (some ⟨b, o, none⟩) xs := by
  rcases h with h | ⟨b', o', ha, hb, hc⟩
  · exact .inl h
  · injection ha with ha; injection ha with h1 h2
    subst h1; subst h2
    exact .inr ⟨b, o, rfl, Nat.lt_of_lt_of_le hb k.size, fun i x hx => by rw [k.cell hb hp]; exact hc i x hx⟩
theorem RowAt.lt {W : World} {x : BX} (h : RowAt W x) : x.g < W.heap.size := by
  obtain ⟨⟨cur, h⟩, _⟩ := h
  exact (Array.getElem?_eq_some_iff.1 h).1
theorem RowAt.fx {W W' : World} {x : BX} {p : Nat → Prop} (h : RowAt W x) (k : Fx p W W') (hp : ¬ p x.g) : RowAt W' x := by
  refine ⟨?_, h.2.fx k hp⟩
  obtain ⟨cur, hc⟩ := h.1
  exact ⟨cur, (k.block _ h.lt hp).trans hc⟩
theorem RowAt.fr {W W' : World} {x : BX} (h : RowAt W x) (k : Fr W W') : RowAt W' x := h.fx (p := fun _ => False) (Fx.of_fr k) (fun e => e)
theorem RowAt.ne {W : World} {x : BX} (h : RowAt W x) {base : Nat} {size n : Nat} {v : Value} {xs : List Value} (ho : W.ownsRow base 31 size v n xs) : v.ownBlock ≠ some x.g := by
  intro e
  rcases ho.2 with ⟨rfl, _⟩ | ⟨g', cap, cur, rfl, _, hh, _⟩
  · simp [Value.ownBlock] at e
  · have e2 : g' = x.g := by simpa [Value.ownBlock] using e
    subst e2
    obtain ⟨c, hc⟩ := h.1
    rw [hh] at hc
    injection hc with hc
    injection hc with _ ht
    exact absurd ht (by decide)
def freshX (m n N : Nat) (n₀ : Nat) (p : Nat → Prop) (pre : List BX) (x : BX) (W : World) : Prop := pre.length < (boxL m n N).length ∧ stripX x ∈ boxL m n N ∧ n₀ ≤ x.g ∧ ¬ p x.g ∧ RowAt W x
theorem ownsRow_blk {W : World} {base : Nat} {e : TypeId} {size n m cap g : Nat} {xs : List Value} (h : W.ownsRow base e size (.slice (some ⟨g, 0, none⟩) n cap) m xs) : ∃ cur, W.heap[g]? = some (.cells cur e (0, 0)) := by
  rcases h.2 with ⟨h2, _⟩ | ⟨g', cap', cur, hv, _, hh, _⟩
  · cases h2
  · injection hv with hv
    injection hv with hv; injection hv with hv
    subst hv
    exact ⟨cur, hh⟩
theorem box_lt {m k N i : Nat} (hi : i < N) {used : List (List Int)} {cs : List Int} {rst : List (List Int)} (hC : boxC m k = used ++ cs :: rst) {xs : List BX} (hx : xs.map stripX = boxL m k i ++ used.map fun cs => (i, cs)) : xs.length < (boxL m k N).length := by
  have h1 : xs.length = (boxL m k i).length + used.length := by rw [← List.length_map (f := stripX), hx, List.length_append, List.length_map]
  have h2 : (boxC m k).length = used.length + 1 + rst.length := by rw [hC, List.length_append, List.length_cons]; omega
  rw [boxC_size] at h2
  rw [boxL_size] at h1 ⊢
  have h3 : (i + 1) * (2 * m + 1) ^ k ≤ N * (2 * m + 1) ^ k := Nat.mul_le_mul_right _ hi
  rw [Nat.add_mul, Nat.one_mul] at h3
  omega
/-- the cells of the iterator's own row -/
def Cnt (W : World) (cb : Nat) (L : List Value) : Prop := cb < W.heap.size ∧ ∀ (j : Nat) (u : Value), L[j]? = some u → W.cell? ⟨cb, j, none⟩ = some u ∧ W.frozen? ⟨cb, j, none⟩ = false
theorem Cnt.fx {p : Nat → Prop} {W W' : World} {cb : Nat} {L : List Value} (h : Cnt W cb L) (k : Fx p W W') (hp : ¬ p cb) : Cnt W' cb L :=
  ⟨Nat.lt_of_lt_of_le h.1 k.size, fun j y hy => by rw [k.cell h.1 hp, k.frozen h.1 hp]; exact h.2 j y hy⟩
theorem Cnt.set {W : World} {cb : Nat} {L : List Value} (h : Cnt W cb L) (i : Nat) (hi : i < L.length) (u : Value) : Cnt (W.setCell ⟨cb, i, none⟩ u) cb (L.set i u) := by
  refine ⟨by simp [World.setCell]; exact h.1, fun j y hy => ?_⟩
  rw [World.frozen?_setCell]
  by_cases e : i = j
  · subst e
    rw [List.getElem?_set_self hi] at hy
    injection hy with hy
    subst hy
    have := h.2 i _ (List.getElem?_eq_getElem hi)
    exact ⟨World.cell?_setCell_same' _ _ _ (by rw [this.1]; rfl), this.2⟩
  · rw [List.getElem?_set_ne e] at hy
    have := h.2 j y hy
    exact ⟨by rw [World.cell?_setCell_other _ _ _ _ (by intro e2; injection e2 with _ e2; exact e e2)]; exact this.1, this.2⟩

theorem odo_set (j : Nat) (a x y : Int) (t : List Int) : ((List.replicate j a ++ x :: t).map iv).set j (iv y) = (List.replicate j a ++ y :: t).map iv := by
  rw [List.map_append, List.set_append_right _ _ (by simp)]; simp
theorem rep_snoc (j : Nat) (a : Int) (t : List Int) : List.replicate (j + 1) a ++ t = List.replicate j a ++ a :: t := by
  rw [List.replicate_succ', List.append_assoc]; rfl
theorem take_set_succ {α : Type} {L : List α} {k : Nat} {v : α} (h : k < L.length) : (L.set k v).take (k + 1) = L.take k ++ [v] := by
  rw [List.take_add_one, List.getElem?_set_self h, List.take_set_of_le (Nat.le_refl _)]; rfl

theorem wpListIn_make_full {F : Fence} {rm : Nat} {P : Program} (w : World) {ops : Array Oper} {rest : List Oper} {o : Oper} {a : Act} {Q : Exit → Act → World → Prop}
    (hg : o.guard = none) (l c : Operand) (t : TypeId) (hop : o.op = Op.makeSlice t l c)
    (base : Nat) (e : TypeId) (i : TypeInfo) (z : Value) (size : Nat) (h1 : P.underlying t = some (.slice e)) (h2 : P.info? e = some i) (h3 : i.zero = some z) (h4 : i.size = size)
    (kl kc : IntKind) (L C : Int) (n : Nat) (hl : a.eval l = .int kl L) (hc : a.eval c = .int kc C) (hL : L = (n : Int)) (hC : C = (n : Int)) (b2 : i.bytes * n ≤ 281474976710656) (b3 : n ≤ maxLen) (b4 : base ≤ w.heap.size)
    (hK : ∀ w', w'.ownsRow base e size (.slice (some ⟨w.heap.size, 0, none⟩) n n) n (madeCells z.cells (n * size)).toList → w.grownBy w' none → wpListIn F rm P ops Q rest (a.put o.dst (.slice (some ⟨w.heap.size, 0, none⟩) n n)) w') :
    wpListIn F rm P ops Q (o :: rest) a w := by
  refine wpListIn_plain hg fun K hK' => ?_
  obtain ⟨w', hrun, r1, r2⟩ := run_make_full (P := P) w base t e i z size h1 h2 h3 h4 kl kc n b2 b3 b4
  subst hL
  subst hC
  unfold Oper.wpIn
  refine ⟨?_, ?_⟩
  · simp [Oper.about, hop]
  · rw [Oper.semAt_plain F _ _ (by rw [hop]; intro c hc'; cases hc')]
    simp [execOp, hop, hl, hc, hrun, Result.andThen]
    exact hK' _ _ (hK w' r1 r2)

end Go.Proofs.YtamffndlpminmaaGreatDoor

/- smith.Kernel. -/
namespace Go.Proofs.YtamffndlpminmaaGreatDoor
open Go.RowKit Go.Lib
attribute [local go_sem ↓] Go.wp_at_zero Go.wp_at_succ

def fitG (g : List (List Int)) : Bool := g.all fun r => r.all fitB
/-- multiples of the rows of a matrix that has some, whose sum is zero -/
def kerS (F n : Nat) (m : List (List Int)) : Option (List (List Int)) :=
  (herm F (n + m.length) 0 (wideM m) 0).bind fun r => if fitG (kerTo n (r.1.take r.2)) then some (kerTo n (r.1.take r.2)) else none

theorem fit_sm {x : Int} (h : fitB x = true) : Sm x := by
  unfold fitB at h; have h := of_decide_eq_true h; exact ⟨by omega, by omega⟩

end Go.Proofs.YtamffndlpminmaaGreatDoor

/- spelling.sum, checkSpelling, open, Read. -/
namespace Go.Proofs.YtamffndlpminmaaGreatDoor
open Go.RowKit Go.Lib

def addK (k : Int) (out x : List Int) : List Int := List.zipWith (fun o y => o + k * y) out x
def sumL (r : List Int) : List Int → List (List Int) → List Int
  | k :: ks, x :: xs => sumL (addK k r x) ks xs
  | _, _ => r
def rowOf (N : List Sy) (i : Nat) : List Int := ((N[i]?).map Sy.row).getD []
def sumS (N A : List Sy) (s : Nat × List Int) : List Int := sumL (rowOf N s.1) s.2 (A.map Sy.row)
theorem rowOf_eq {N : List Sy} {i : Nat} {x : Sy} (h : N[i]? = some x) : rowOf N i = x.row := by unfold rowOf; rw [h]; rfl
theorem addK_length {k : Int} {r x : List Int} (h : x.length = r.length) : (addK k r x).length = r.length := by unfold addK; rw [List.length_zipWith]; omega
theorem addK_get {k : Int} {r x : List Int} {c : Nat} {a b : Int} (h1 : r[c]? = some a) (h2 : x[c]? = some b) : (addK k r x)[c]? = some (a + k * b) := by
  unfold addK; rw [List.getElem?_zipWith, h1, h2]
/-- the sum behind j steps -/
theorem sumL_step (r : List Int) : ∀ (ks : List Int) (xs : List (List Int)) (j : Nat) (k : Int) (x : List Int), ks[j]? = some k → xs[j]? = some x → sumL r (ks.take (j + 1)) (xs.take (j + 1)) = addK k (sumL r (ks.take j) (xs.take j)) x
  | [], xs, j, k, x, h, _ => by simp at h
  | k0 :: ks, [], j, k, x, _, h => by simp at h
  | k0 :: ks, x0 :: xs, 0, k, x, h, g => by simp at h g; subst h; subst g; simp [sumL]
  | k0 :: ks, x0 :: xs, j + 1, k, x, h, g => by
    have := sumL_step (addK k0 r x0) ks xs j k x (by simpa using h) (by simpa using g)
    simpa [sumL] using this
theorem sumL_length (d : Nat) : ∀ (ks : List Int) (xs : List (List Int)) (r : List Int), r.length = d → (∀ x, x ∈ xs → x.length = d) → (sumL r ks xs).length = d
  | [], xs, r, h, _ => by cases xs <;> exact h
  | k :: ks, [], r, h, _ => h
  | k :: ks, x :: xs, r, h, hx => by
    rw [sumL]
    exact sumL_length d ks xs _ (by rw [addK_length (by rw [h]; exact hx x (List.mem_cons_self ..))]; exact h) (fun y hy => hx y (List.mem_cons_of_mem _ hy))
def BdL (m : Int) (l : List Int) : Prop := ∀ x, x ∈ l → -m ≤ x ∧ x ≤ m
theorem mul_e18 {a b : Int} (h1 : -1000000000 ≤ a ∧ a ≤ 1000000000) (h2 : -1000000000 ≤ b ∧ b ≤ 1000000000) : -1000000000000000000 ≤ a * b ∧ a * b ≤ 1000000000000000000 := by
  have h3 : a.natAbs ≤ 1000000000 := by omega
  have h4 : b.natAbs ≤ 1000000000 := by omega
  have h5 : a.natAbs * b.natAbs ≤ 1000000000 * 1000000000 := Nat.mul_le_mul h3 h4
  have h6 := Int.natAbs_mul a b
  omega
theorem fitB_bd {x : Int} (h : fitB x = true) : -1000000000 ≤ x ∧ x ≤ 1000000000 := by
  unfold fitB at h; exact of_decide_eq_true h
theorem sumL_bd : ∀ (ks : List Int) (xs : List (List Int)) (r : List Int) (m : Int), BdL m r → (∀ k, k ∈ ks → fitB k = true) → (∀ x, x ∈ xs → ∀ y, y ∈ x → fitB y = true) → BdL (m + 1000000000000000000 * ks.length) (sumL r ks xs)
  | [], xs, r, m, h, _, _ => by cases xs <;> (intro x hx; have := h x hx; simp; omega)
  | k :: ks, [], r, m, h, _, _ => fun x hx => by have := h x hx; simp only [List.length_cons]; omega
  | k :: ks, x :: xs, r, m, h, hk, hx => by
    rw [sumL]
    have h1 : BdL (m + 1000000000000000000) (addK k r x) := fun z hz => by
      unfold addK at hz
      obtain ⟨i, hi⟩ := List.getElem?_of_mem hz
      rw [List.getElem?_zipWith] at hi
      cases ha : r[i]? with
      | none => rw [ha] at hi; simp at hi
      | some a =>
        cases hb : x[i]? with
        | none => rw [ha, hb] at hi; simp at hi
        | some b =>
          rw [ha, hb] at hi
          injection hi with hi
          have q1 := h a (List.mem_of_getElem? ha)
          have q2 := mul_e18 (fitB_bd (hk k (List.mem_cons_self ..))) (fitB_bd (hx x (List.mem_cons_self ..) b (List.mem_of_getElem? hb)))
          omega
    have := sumL_bd ks xs (addK k r x) (m + 1000000000000000000) h1 (fun y hy => hk y (List.mem_cons_of_mem _ hy)) (fun y hy => hx y (List.mem_cons_of_mem _ hy))
    intro z hz
    have := this z hz
    simp only [List.length_cons]
    omega

/-- a row of ints that the call has made -/
def RowNew (w : World) (xs : List Int) (e : Ending) (w' : World) : Prop := ∃ g c, e = .returned (.slice (some ⟨g, 0, none⟩) xs.length c) ∧ w.heap.size ≤ g ∧ El w' iv (some ⟨g, 0, none⟩) xs ∧ Fr w w'

end Go.Proofs.YtamffndlpminmaaGreatDoor

/- spelling.checkSpelling, open, Read, bound. -/
namespace Go.Proofs.YtamffndlpminmaaGreatDoor
open Go.RowKit Go.Lib

/-- the error of a spelling -/
def spE (N A : List Sy) (i : Int) (cs : List Int) : Int := if i < 0 ∨ (N.length : Int) ≤ i then 10 else if cs.length ≠ A.length then 5 else rowE cs

/-- a spelling, and where its counts lie -/
structure Sp where
  i : Int
  cs : List Int
  ca : Option Addr
  cc : Nat
def Sp.enc (x : Sp) : Value × Value := (.int .i64 x.i, .slice x.ca x.cs.length x.cc)
def Sps (w : World) (a : Option Addr) (xs : List Sp) : Prop := Prs w a (xs.map Sp.enc) ∧ ∀ x, x ∈ xs → El w iv x.ca x.cs
theorem Sps.fr {w w' : World} {a : Option Addr} {xs : List Sp} (h : Sps w a xs) (k : Fr w w') : Sps w' a xs := ⟨h.1.fr k, fun x hx => (h.2 x hx).fr k⟩
theorem Sps.at {w : World} {a : Option Addr} {xs : List Sp} (h : Sps w a xs) {i : Nat} (hi : i < xs.length) :
    ∃ b o x, a = some ⟨b, o, none⟩ ∧ b < w.heap.size ∧ xs[i]? = some x ∧ w.cell? ⟨b, o + i * 2, none⟩ = some (.int .i64 x.i) ∧ w.cell? ⟨b, o + i * 2 + 1, none⟩ = some (.slice x.ca x.cs.length x.cc) ∧ El w iv x.ca x.cs := by
  obtain ⟨b, o, z, ha, hb, hz, hc, hc2⟩ := h.1.at (i := i) (by rw [List.length_map]; exact hi)
  rw [List.getElem?_map, List.getElem?_eq_getElem hi] at hz
  injection hz with hz
  subst hz
  exact ⟨b, o, xs[i], ha, hb, List.getElem?_eq_getElem hi, hc, hc2, h.2 _ (List.getElem_mem hi)⟩

/-- the first error of spellings -/
def spsE (N A : List Sy) : List Sp → Int
  | [] => 0
  | x :: l => if spE N A x.i x.cs = 0 then spsE N A l else spE N A x.i x.cs

end Go.Proofs.YtamffndlpminmaaGreatDoor
