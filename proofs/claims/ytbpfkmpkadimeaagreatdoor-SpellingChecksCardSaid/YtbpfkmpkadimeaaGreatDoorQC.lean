/-
  Contracts and laws for the statements of the law 43 of the seat, QC.
-/
import Derived.Test.YtbpfkmpkadimeaaGreatDoorQA
import Derived.Test.YtbpfkmpkadimeaaGreatDoorQB
import Derived.Test.YtbpfkmpkadimeaaGreatDoorLaysGrow
import Derived.Laws.AppendOwnNone
import Derived.Deep.QuietTactic
import Derived.BigQuiet
import Derived.Maps.AppendAt
import Derived.Laws.CopyOwn
import Derived.Laws.MakeOwn
import Derived.OwnWalk
import Derived.Deep.RegionHeld3
import Derived.Deep.RegionLaw

/- slices.Concat of two slices of symbols. -/
namespace Go.Proofs.YtbpfkmpkadimeaaGreatDoor
open Go.RowKit Go.Lib

/-- the cells of pairs, one behind another -/
def flat2 : List (Value × Value) → List Value
  | [] => []
  | x :: l => x.1 :: x.2 :: flat2 l
theorem flat2_length (l : List (Value × Value)) : (flat2 l).length = l.length * 2 := by
  induction l with
  | nil => rfl
  | cons x l ih => simp [flat2, ih]; omega
theorem flat2_append (l m : List (Value × Value)) : flat2 (l ++ m) = flat2 l ++ flat2 m := by
  induction l with
  | nil => rfl
  | cons x l ih => simp [flat2, ih]
theorem flat2_get : ∀ (l : List (Value × Value)) (i : Nat) (x : Value × Value), l[i]? = some x → (flat2 l)[i * 2]? = some x.1 ∧ (flat2 l)[i * 2 + 1]? = some x.2
  | [], i, x, h => by simp at h
  | y :: l, 0, x, h => by simp at h; subst h; simp [flat2]
  | y :: l, i + 1, x, h => by
    have := flat2_get l i x (by simpa using h)
    have e : (i + 1) * 2 = i * 2 + 1 + 1 := by omega
    rw [e]
    simpa [flat2] using this
theorem flat2_of : ∀ (l : List (Value × Value)) (j : Nat) (u : Value), (flat2 l)[j]? = some u → ∃ i x, l[i]? = some x ∧ ((j = i * 2 ∧ u = x.1) ∨ (j = i * 2 + 1 ∧ u = x.2))
  | [], j, u, h => by simp [flat2] at h
  | y :: l, 0, u, h => by simp [flat2] at h; exact ⟨0, y, rfl, .inl ⟨rfl, h.symm⟩⟩
  | y :: l, 1, u, h => by simp [flat2] at h; exact ⟨0, y, rfl, .inr ⟨rfl, h.symm⟩⟩
  | y :: l, j + 2, u, h => by
    simp [flat2] at h
    obtain ⟨i, x, hx, h⟩ := flat2_of l j u h
    refine ⟨i + 1, x, by simpa using hx, ?_⟩
    rcases h with ⟨h1, h2⟩ | ⟨h1, h2⟩
    · exact .inl ⟨by omega, h2⟩
    · exact .inr ⟨by omega, h2⟩
theorem flat2_one {l : List (Value × Value)} (h : ∀ z, z ∈ l → z.1.oneCell' = true ∧ z.2.oneCell' = true) : ∀ u, u ∈ flat2 l → u.oneCell' = true := fun u hu => by
  obtain ⟨j, hj⟩ := List.getElem?_of_mem hu
  obtain ⟨i, x, hx, h2⟩ := flat2_of l j u hj
  have := h x (List.mem_of_getElem? hx)
  rcases h2 with ⟨_, rfl⟩ | ⟨_, rfl⟩
  · exact this.1
  · exact this.2
theorem Prs.cells {w : World} {b o : Nat} {xs : List (Value × Value)} (h : Prs w (some ⟨b, o, none⟩) xs) : ∀ j u, (flat2 xs)[j]? = some u → w.cell? ((⟨b, o, none⟩ : Addr).add j) = some u := fun j u hu => by
  obtain ⟨i, x, hx, h2⟩ := flat2_of xs j u hu
  have e : (⟨b, o, none⟩ : Addr).add j = ⟨b, o + j, none⟩ := by
    unfold Addr.add
    split
    · rename_i e; rw [e]; rfl
    · rfl
  rw [e]
  rcases h with h | ⟨b', o', ha, hb, hc⟩
  · subst h; simp at hx
  · injection ha with ha; injection ha with h3 h4
    subst h3; subst h4
    have := hc i x hx
    rcases h2 with ⟨rfl, rfl⟩ | ⟨rfl, rfl⟩
    · exact this.1
    · rw [← Nat.add_assoc]; exact this.2
theorem Prs.addr {w : World} {a : Option Addr} {xs : List (Value × Value)} (h : Prs w a xs) (hp : 0 < xs.length) : ∃ b o, a = some ⟨b, o, none⟩ := by
  rcases h with h | ⟨b, o, ha, _⟩
  · subst h; simp at hp
  · exact ⟨b, o, ha⟩
/-- a row of pairs that the call has made -/
theorem ownsRow_prs {w : World} {base : Nat} {e : TypeId} {g n m cap : Nat} {xs : List (Value × Value)} (h : w.ownsRow base e 2 (.slice (some ⟨g, 0, none⟩) n cap) m (flat2 xs)) : Prs w (some ⟨g, 0, none⟩) xs ∧ n = m ∧ m = xs.length ∧ base ≤ g ∧ n ≤ cap ∧ g < w.heap.size := by
  have h1 := h.1
  obtain ⟨a, b, c, d, f⟩ := ownsRow_some h
  refine ⟨.inr ⟨g, 0, rfl, c, fun i x hx => ?_⟩, a, by rw [flat2_length] at h1; omega, b, d, c⟩
  have := flat2_get xs i x hx
  rw [Nat.zero_add]
  exact ⟨(f _ _ this.1).1, (f _ _ this.2).1⟩

theorem infoSym : (Tryz.prog.info? 46).map (fun i => (i.zero, i.size, i.bytes)) = some (some (.agg #[.string ⟨#[]⟩, .slice none 0 0]), 2, 40) := by kernel_rfl

/-- a slice of pairs of the call's own -/
def PrsRet (w : World) (xs : List (Value × Value)) (e : Ending) (w' : World) : Prop := ∃ g cp, e = .returned (.slice (some ⟨g, 0, none⟩) xs.length cp) ∧ Prs w' (some ⟨g, 0, none⟩) xs ∧ w.heap.size ≤ g ∧ xs.length ≤ cp ∧ Fr w w'

set_option maxRecDepth 100000 in
set_option maxHeartbeats 4000000 in
theorem Concat_sym (p c : Nat) (a b : Option Addr) (ca cb : Nat) (xs ys : List (Value × Value)) (w : World) (_hp : p < w.heap.size) (hc1 : w.cell? ⟨p, 0, none⟩ = some (.slice a xs.length ca)) (hc2 : w.cell? ⟨p, 1, none⟩ = some (.slice b ys.length cb))
    (hx : Prs w a xs) (hy : Prs w b ys) (hnb : b = none → cb = 0 ∧ ys = []) (ho1 : ∀ z, z ∈ xs → z.1.oneCell' = true ∧ z.2.oneCell' = true) (ho2 : ∀ z, z ∈ ys → z.1.oneCell' = true ∧ z.2.oneCell' = true) (hl : xs.length + ys.length ≤ 1000000) (hpos : 0 < xs.length) :
    Calls Tryz.prog 57 #[.slice (some ⟨p, 0, none⟩) 2 c] w (PrsRet w (xs ++ ys)) := by
  obtain ⟨i0, hi, hz0, hz1, hz2⟩ := info_parts infoSym
  obtain ⟨ab, ao, rfl⟩ := hx.addr hpos
  have hgrow := fun W => Any8.slices_Grow_grow Tryz.growSy i0 _ hi hz0 (by rw [hz1]; decide) none 0 0 (xs.length + ys.length) [] W (Nat.le_refl _) (by omega) (by rw [hz2]; omega) (by omega) (by rw [hz1]; simp) (fun _ => rfl) (fun _ h => by cases h)
  change ∀ W, Calls Tryz.prog 126 #[.slice none 0 0, .int .i64 ((xs.length + ys.length : Nat) : Int)] W (fun e w' => e = .returned (.slice (some ⟨W.heap.size, 0, none⟩) 0 (grownCap W (0 + (xs.length + ys.length)) 0 46)) ∧
    w' = W.drew.alloc (.cells (([] : List Value).toArray ++ Builtin.zeroCells (Value.agg #[.string ⟨#[]⟩, .slice none 0 0]).cells (0 + (xs.length + ys.length) - 0) ++ Builtin.zeroCells (Value.agg #[.string ⟨#[]⟩, .slice none 0 0]).cells (grownCap W (0 + (xs.length + ys.length)) 0 46 - (0 + (xs.length + ys.length)))) 46)) at hgrow
  obtain ⟨n, hn⟩ : ∃ n, n = xs.length := ⟨_, rfl⟩
  obtain ⟨m, hm⟩ : ∃ m, m = ys.length := ⟨_, rfl⟩
  have hlen : (xs ++ ys).length = n + m := by rw [List.length_append, hn, hm]
  have hown0 : ∀ W : World, W.heap.size = w.heap.size → (W.alloc (.cells (([] : List Value).toArray ++ Builtin.zeroCells (Value.agg #[.string ⟨#[]⟩, .slice none 0 0]).cells (0 + (n + m) - 0) ++ Builtin.zeroCells (Value.agg #[.string ⟨#[]⟩, .slice none 0 0]).cells (grownCap w (0 + (n + m)) 0 46 - (0 + (n + m)))) 46)).ownsRow w.heap.size 46 2 (.slice (some ⟨w.heap.size, 0, none⟩) 0 (grownCap w (0 + (n + m)) 0 46)) 0 [] := fun W hW => by
    have hge := grownCap_ge w (0 + (n + m)) 0 46
    have hle := grownCap_le_maxLen w (0 + (n + m)) 0 46 (by unfold maxLen; omega)
    have hnew := heap_alloc_new W (.cells (([] : List Value).toArray ++ Builtin.zeroCells (Value.agg #[.string ⟨#[]⟩, .slice none 0 0]).cells (0 + (n + m) - 0) ++ Builtin.zeroCells (Value.agg #[.string ⟨#[]⟩, .slice none 0 0]).cells (grownCap w (0 + (n + m)) 0 46 - (0 + (n + m)))) 46)
    rw [hW] at hnew
    refine ⟨rfl, .inr ⟨w.heap.size, _, _, rfl, Nat.le_refl _, hnew, Nat.zero_le _, hle, ?_, by simp⟩⟩
    rw [Array.size_append, Array.size_append, size_zeroCells, size_zeroCells]
    generalize grownCap w (0 + (n + m)) 0 46 = C at *
    show ([] : List Value).toArray.size + (0 + (n + m) - 0) * 2 + (C - (0 + (n + m))) * 2 = C * 2
    have e0 : ([] : List Value).toArray.size = 0 := rfl
    rw [e0]
    omega
  rw [← hn, ← hm] at hl
  rw [← hn] at hpos hc1
  rw [← hm] at hc2
  rw [← hn, ← hm] at hgrow
  have hgrow1 := Lib.hid (show ∀ W, W.heap.size = w.heap.size → W.tape = w.tape → W.drawn = w.drawn → Calls Tryz.prog 126 #[.slice none 0 0, .int .i64 ((n + m : Nat) : Int)] W (fun e w' => ∃ C, e = .returned (.slice (some ⟨w.heap.size, 0, none⟩) 0 C) ∧ Fr W w' ∧ w'.ownsRow w.heap.size 46 2 (.slice (some ⟨w.heap.size, 0, none⟩) 0 C) 0 []) from fun W h1 h2 h3 => by
    have hC : grownCap W (0 + (n + m)) 0 46 = grownCap w (0 + (n + m)) 0 46 := by unfold grownCap; rw [h2, h3]
    have hw := hown0 W.drew h1
    have h := hgrow W
    rw [hC, h1] at h
    refine h.mono ?_
    rintro e w' ⟨rfl, rfl⟩
    exact ⟨_, rfl, (Fr.refl W).drew.alloc _, hw⟩)
  have hx1 := Lib.hid hx
  have hy1 := Lib.hid hy
  have hn1 := Lib.hid hn
  have hm1 := Lib.hid hm
  have hlen1 := Lib.hid hlen
  have ho1 := Lib.hid ho1
  have ho2 := Lib.hid ho2
  have hnb := Lib.hid hnb
  rename_i q1 q2 q3
  clear q1 q2 q3 hx hy hn hm hlen hgrow hown0
  cases b with
  | none =>
    obtain ⟨rfl, rfl⟩ := hnb.out rfl
    obtain rfl : m = 0 := hm1.out
    have hg9 := hgrow1.out
    simp only [Nat.add_zero] at hg9
    replace hgrow1 := Lib.hid hg9
    clear hg9
    go_enter Tryz.func57, Tryz.ntmps57
    go_wp2_with fail
    refine wp_loop_rounds 3 ?_
    rw [rounds_succ]
    go_wp2_with fail
    rw [rounds_succ]
    go_wp2_with fail
    rw [rounds_succ]
    go_wp2_with fail
    skip
    refine (hgrow1.out _ rfl rfl rfl).mono ?_
    rintro e w1 ⟨C, rfl, hf1, hown1⟩
    have hcA := hf1.keep hc1
    have hcB := hf1.keep hc2
    go_wp2_with fail
    refine wp_loop_rounds 3 ?_
    rw [rounds_succ]
    have hxc := Lib.hid ((hx1.out.fr hf1).cells)
    have hfl1 := Lib.hid (flat2_length xs)
    have hs1 := hf1.size
    go_wp2_with (at_builtin; refine wpList_append_lies _ rfl _ _ 29 (by rfl) w.heap.size 46 i0 _ 2 40 Tryz.underlying29 hi hz0 hz1 hz2 rfl (by decide) _ 0 _ (by rfl) hown1 ⟨ab, ao, none⟩ n ca (flat2 xs) (by rfl) (by rw [hfl1.out, ← hn1.out]) hxc.out (flat2_one ho1.out) hpos (by unfold maxLen; omega) (by omega) (by omega) w1.heap.size rfl ?_; intro g2 cap2 w2 hown2 hgr2 hat2 hlt2)
    have hg2 : w.heap.size ≤ g2 := by
      have := (ownsRow_some hown2).2.1
      exact this
    have hf2 : Fr w w2 := hf1.grown hgr2 (fun k e => by simp [Value.ownBlock] at e; omega)
    replace hcA := hf2.keep hc1
    replace hcB := hf2.keep hc2
    rw [List.nil_append, Nat.zero_add] at hown2
    clear hgr2 hat2 hown1 hgrow1 hxc
    go_wp2_with fail
    rw [rounds_succ]
    go_wp2_with (at_builtin; refine wpList_append_own_none rfl _ _ 29 (by rfl) w.heap.size 46 i0 2 Tryz.underlying29 hi _ n (flat2 xs) (by rfl) hown2 (by rfl) ?_)
    obtain ⟨hp2, -, -, -, hcap2, -⟩ := ownsRow_prs hown2
    have hfin := Lib.hid (show PrsRet w (xs ++ []) (.returned (.slice (some ⟨g2, 0, none⟩) n cap2)) w2 from ⟨g2, cap2, by rw [hlen1.out]; rfl, by rw [List.append_nil]; exact hp2, hg2, by rw [hlen1.out]; exact hcap2, hf2⟩)
    go_wp2_with fail
    rw [rounds_succ]
    go_wp2_with fail
    go_ret
    exact hfin.out
  | some bb =>
    have hyc : ∀ j u, (flat2 ys)[j]? = some u → w.cell? (bb.add j) = some u := by
      by_cases h0 : ys.length = 0
      · have : ys = [] := List.eq_nil_of_length_eq_zero h0
        intro j u hu; rw [this] at hu; simp [flat2] at hu
      · obtain ⟨b1, o1, e⟩ := hy1.out.addr (by omega)
        injection e with e
        subst e
        exact hy1.out.cells
    have hfl2 := Lib.hid (flat2_length ys)
    replace hyc := Lib.hid hyc
    go_enter Tryz.func57, Tryz.ntmps57
    go_wp2_with fail
    refine wp_loop_rounds 3 ?_
    rw [rounds_succ]
    go_wp2_with fail
    rw [rounds_succ]
    go_wp2_with fail
    rw [rounds_succ]
    go_wp2_with fail
    rw [show ((n : Int) + (m : Int)) = ((n + m : Nat) : Int) by omega]
    refine (hgrow1.out _ rfl rfl rfl).mono ?_
    rintro e w1 ⟨C, rfl, hf1, hown1⟩
    have hcA := hf1.keep hc1
    have hcB := hf1.keep hc2
    go_wp2_with fail
    refine wp_loop_rounds 3 ?_
    rw [rounds_succ]
    have hxc := Lib.hid ((hx1.out.fr hf1).cells)
    have hfl1 := Lib.hid (flat2_length xs)
    have hs1 := hf1.size
    go_wp2_with (at_builtin; refine wpList_append_lies _ rfl _ _ 29 (by rfl) w.heap.size 46 i0 _ 2 40 Tryz.underlying29 hi hz0 hz1 hz2 rfl (by decide) _ 0 _ (by rfl) hown1 ⟨ab, ao, none⟩ n ca (flat2 xs) (by rfl) (by rw [hfl1.out, ← hn1.out]) hxc.out (flat2_one ho1.out) hpos (by unfold maxLen; omega) (by omega) (by omega) w1.heap.size rfl ?_; intro g2 cap2 w2 hown2 hgr2 hat2 hlt2)
    have hg2 : w.heap.size ≤ g2 := by
      have := (ownsRow_some hown2).2.1
      exact this
    have hf2 : Fr w w2 := hf1.grown hgr2 (fun k e => by simp [Value.ownBlock] at e; omega)
    replace hcA := hf2.keep hc1
    replace hcB := hf2.keep hc2
    rw [List.nil_append, Nat.zero_add] at hown2
    clear hgr2 hat2 hown1 hgrow1 hxc
    go_wp2_with fail
    rw [rounds_succ]
    have hyc2 : Hid (∀ j u, (flat2 ys)[j]? = some u → w2.cell? (bb.add j) = some u) := Lib.hid (fun j u hu => hf2.keep (hyc.out j u hu))
    have hs2 := hf2.size
    go_wp2_with (at_builtin; refine wpList_append_own _ rfl _ _ 29 (by rfl) w.heap.size 46 i0 _ 2 40 Tryz.underlying29 hi hz0 hz1 hz2 rfl (by decide) _ n _ (by rfl) hown2 bb m cb (flat2 ys) (by rfl) (by rw [hfl2.out, ← hm1.out]) hyc2.out (flat2_one ho2.out) (by unfold maxLen; omega) (by omega) hs2 ?_; intro v3 w3 hown3 hgr3 hv3)
    obtain ⟨g3, cap3, rfl⟩ := ownsRow_pos hown3 (by omega)
    rw [← flat2_append] at hown3
    obtain ⟨hp3, -, -, hg3, hcap3, -⟩ := ownsRow_prs hown3
    have hf3 : Fr w w3 := hf2.grown hgr3 (fun k e => by simp [Value.ownBlock] at e; omega)
    have hfin := Lib.hid (show PrsRet w (xs ++ ys) (.returned (.slice (some ⟨g3, 0, none⟩) ((n + m : Nat) : Nat) cap3)) w3 from ⟨g3, cap3, by rw [hlen1.out], hp3, hg3, by rw [hlen1.out]; exact hcap3, hf3⟩)
    clear hv3 hgr3 hown3 hown2
    go_wp2_with fail
    rw [rounds_succ]
    go_wp2_with fail
    go_ret
    exact hfin.out
end Go.Proofs.YtbpfkmpkadimeaaGreatDoor

/- Notations; spelling.Check of a right one. -/
namespace Go.Proofs.YtbpfkmpkadimeaaGreatDoor
open Go.RowKit Go.Lib

/-- a symbol, and where its row lies -/
structure Sy where
  nm : ByteArray
  row : List Int
  ra : Option Addr
  rc : Nat
def Sy.enc (x : Sy) : Value × Value := (.string x.nm, .slice x.ra x.row.length x.rc)
theorem Sy.one (l : List Sy) : ∀ z, z ∈ l.map Sy.enc → z.1.oneCell' = true ∧ z.2.oneCell' = true := fun z hz => by
  obtain ⟨x, -, rfl⟩ := List.mem_map.1 hz
  exact ⟨rfl, rfl⟩
def Syms (w : World) (a : Option Addr) (xs : List Sy) : Prop := Prs w a (xs.map Sy.enc) ∧ ∀ x, x ∈ xs → El w iv x.ra x.row
theorem Syms.fr {w w' : World} {a : Option Addr} {xs : List Sy} (h : Syms w a xs) (k : Fr w w') : Syms w' a xs := ⟨h.1.fr k, fun x hx => (h.2 x hx).fr k⟩
/-- what stands at a place -/
theorem Syms.at {w : World} {a : Option Addr} {xs : List Sy} (h : Syms w a xs) {i : Nat} (hi : i < xs.length) :
    ∃ b o x, a = some ⟨b, o, none⟩ ∧ b < w.heap.size ∧ xs[i]? = some x ∧ w.cell? ⟨b, o + i * 2, none⟩ = some (.string x.nm) ∧ w.cell? ⟨b, o + i * 2 + 1, none⟩ = some (.slice x.ra x.row.length x.rc) ∧ El w iv x.ra x.row := by
  obtain ⟨b, o, z, ha, hb, hz, hc, hc2⟩ := h.1.at (i := i) (by rw [List.length_map]; exact hi)
  rw [List.getElem?_map, List.getElem?_eq_getElem hi] at hz
  injection hz with hz
  subst hz
  exact ⟨b, o, xs[i], ha, hb, List.getElem?_eq_getElem hi, hc, hc2, h.2 _ (List.getElem_mem hi)⟩

structure NotIs (w : World) (aN aA : Option Addr) (cA : Nat) (N A : List Sy) : Prop where
  noms : Syms w aN N
  accs : Syms w aA A
  nil : aA = none → cA = 0 ∧ A = []
theorem NotIs.fr {w w' : World} {aN aA : Option Addr} {cA : Nat} {N A : List Sy} (h : NotIs w aN aA cA N A) (k : Fr w w') : NotIs w' aN aA cA N A := ⟨h.1.fr k, h.2.fr k, h.3⟩

/-- a right notation with rows of d elements -/
structure NotOk (d : Nat) (N A : List Sy) : Prop where
  n1 : 0 < N.length
  n60 : N.length ≤ 60
  a6 : A.length ≤ 6
  d12 : d ≤ 12
  row : ∀ x, x ∈ N ++ A → x.row.length = d
  fit : ∀ x, x ∈ N ++ A → ∀ y, y ∈ x.row → fitB y = true
  nm : ∀ x, x ∈ N ++ A → isName x.nm = true
  dis : ∀ (i j : Nat) (x y : Sy), (N ++ A)[i]? = some x → (N ++ A)[j]? = some y → i < j → x.nm ≠ y.nm

theorem isName_le {s : ByteArray} (h : isName s = true) : s.size ≤ 32 := by
  unfold isName at h
  rw [Bool.and_eq_true] at h
  exact (of_decide_eq_true h.1).2

set_option maxHeartbeats 400000 in
theorem SCheck1_pred (w : World) (p : Nat) (nm : ByteArray) (xs : List Sy) (hc : w.cell? ⟨p, 0, none⟩ = some (.string nm)) :
    PredP w 61 #[.pointer (some ⟨p, 0, none⟩)] Sy.enc (fun y => y.nm.toList == nm.toList) xs := fun x W _ hW => by
  show Calls Tryz.prog 61 #[.agg #[.string x.nm, .slice x.ra x.row.length x.rc], .pointer (some ⟨p, 0, none⟩)] W _
  have h1 := hW.keep hc
  have p1 := (Fr.refl W).alloc (.cells #[.string x.nm, .slice x.ra x.row.length x.rc] 46) |>.keep h1
  clear hc hW
  go_enter Tryz.func61, Tryz.ntmps61
  go_wp2_with fail
  go_ret
  exact ⟨rfl, (Fr.refl _).alloc _⟩

theorem take_any_false {α : Type} (p : α → Bool) (l : List α) (i : Nat) (h : ∀ (j : Nat) (y : α), l[j]? = some y → j < i → p y = false) : (l.take i).any p = false := by
  rw [List.any_eq_false]
  intro y hy
  obtain ⟨j, hj⟩ := List.getElem?_of_mem hy
  rw [List.getElem?_take] at hj
  split at hj
  · rename_i hji; rw [h j y hj hji]; simp
  · simp at hj

set_option maxRecDepth 100000 in
set_option maxHeartbeats 4000000 in
theorem SCheck_ok (d : Nat) (aN aA : Option Addr) (cN cA : Nat) (N A : List Sy) (w : World) (hn : NotIs w aN aA cA N A) (hok : NotOk d N A) :
    Calls Tryz.prog 21 #[.agg #[.slice aN N.length cN, .slice aA A.length cA]] w fun e w' => e = .returned (.int .i64 0) ∧ Fr w w' := by
  have hn1 := hok.n1
  have hn60 := hok.n60
  have ha6 := hok.a6
  have hd12 := hok.d12
  have hcat : ∀ W : World, Fr w W → ∀ (p c : Nat), p < W.heap.size → W.cell? ⟨p, 0, none⟩ = some (.slice aN N.length cN) → W.cell? ⟨p, 1, none⟩ = some (.slice aA A.length cA) →
      Calls Tryz.prog 57 #[.slice (some ⟨p, 0, none⟩) 2 c] W (fun e w' => ∃ g cp, e = .returned (.slice (some ⟨g, 0, none⟩) (N ++ A).length cp) ∧ Syms w' (some ⟨g, 0, none⟩) (N ++ A) ∧ (N ++ A).length ≤ cp ∧ Fr W w') := fun W hW p c hp h1 h2 => by
    have hN := hn.fr hW
    have h := Concat_sym p c aN aA cN cA (N.map Sy.enc) (A.map Sy.enc) W hp (by rw [List.length_map]; exact h1) (by rw [List.length_map]; exact h2) hN.noms.1 hN.accs.1 (fun e => ⟨(hN.nil e).1, by rw [(hN.nil e).2]; rfl⟩) (Sy.one N) (Sy.one A) (by rw [List.length_map, List.length_map]; omega) (by rw [List.length_map]; exact hn1)
    rw [← List.map_append] at h
    refine h.mono ?_
    rintro e w' ⟨g, cp, rfl, hp', -, hcp, hf⟩
    refine ⟨g, cp, by rw [List.length_map], ⟨hp', fun x hx => ?_⟩, by rw [List.length_map] at hcp; exact hcp, hf⟩
    rcases List.mem_append.1 hx with h9 | h9
    · exact (hN.noms.2 x h9).fr hf
    · exact (hN.accs.2 x h9).fr hf
  have hlen : (N ++ A).length = N.length + A.length := List.length_append
  have hrow := hok.row
  have hfit := hok.fit
  have hnm := hok.nm
  have hdis := hok.dis
  obtain ⟨T, hT⟩ : ∃ T, T = (N ++ A).length := ⟨_, rfl⟩
  rw [← hT] at hcat hlen
  have hT1 : 0 < T := by omega
  have hT2 : T ≤ 66 := by omega
  obtain ⟨n, hnn⟩ : ∃ n, n = N.length := ⟨_, rfl⟩
  obtain ⟨a, han⟩ : ∃ a, a = A.length := ⟨_, rfl⟩
  rw [← hnn] at hcat hn1 hn60 ⊢
  rw [← han] at hcat ha6 ⊢
  generalize N ++ A = L at *
  have d1 : ((n : Int) == 0) = false := beq_false_of_ne (by omega)
  replace hcat := Lib.hid hcat
  replace hrow := Lib.hid hrow
  replace hfit := Lib.hid hfit
  replace hnm := Lib.hid hnm
  replace hdis := Lib.hid hdis
  replace hT := Lib.hid hT
  clear hn hok hlen hnn han
  go_enter Tryz.func21, Tryz.ntmps21
  go_wp2_with fail
  have f0 : Fr w (w.alloc (.cells #[.slice aN n cN, .slice aA a cA] 31)) := (Fr.refl w).alloc _
  have p1 := new2a (w.alloc (.cells #[.slice aN n cN, .slice aA a cA] 31)) (.slice aN n cN) (.slice aA a cA) 29
  have p2 := new2b (w.alloc (.cells #[.slice aN n cN, .slice aA a cA] 31)) (.slice aN n cN) (.slice aA a cA) 29
  rw [show (w.alloc (.cells #[.slice aN n cN, .slice aA a cA] 31)).heap.size = w.heap.size + 1 by simp] at p1 p2
  refine (hcat.out _ (f0.alloc _) (w.heap.size + 1) 2 (by simp) p1.1 p2.1).mono ?_
  rintro e w1 ⟨g, cp, rfl, hsy, hcp, hf1⟩
  have hf : Fr w w1 := (f0.alloc _).trans hf1
  clear p1 p2 f0 hcat hf1
  replace hsy := Lib.hid hsy
  go_wp2_with fail
  go_loopg [29] T (fun k s29 wr => ∃ i : Nat, s29 = .int .i64 i ∧ i + k = T ∧ Fr w1 wr)
  case atStart => exact ⟨0, rfl, by omega, Fr.refl _⟩
  case round =>
    obtain ⟨i, rfl, hik, hfr⟩ := hrel
    by_cases hi : i < T
    · have hdI : decide (i < T) = true := decide_eq_true hi
      obtain ⟨b, o, x, hae, hbl, hxi, hc1, hc2, hel⟩ := (hsy.out.fr hfr).at (i := i) (by rw [← hT.out]; exact hi)
      injection hae with hae; injection hae with h1 h2
      subst h1; subst h2
      obtain ⟨b, o, x0, hae, hbl0, hx0, hc3, hc4, hel0⟩ := (hsy.out.fr hfr).at (i := 0) (by rw [← hT.out]; exact hT1)
      injection hae with hae; injection hae with h1 h2
      subst h1; subst h2
      have hmem : x ∈ L := List.mem_of_getElem? hxi
      have hrl := hrow.out x hmem
      rw [hrow.out x0 (List.mem_of_getElem? hx0)] at hc4
      rw [hrl] at hc2
      have hnmx := hnm.out x hmem
      have hN := IsName_any x.nm
      rw [hnmx] at hN
      have hany : (L.take i).any (fun y => y.nm.toList == x.nm.toList) = false := take_any_false _ _ _ (fun j y hj hji => by
        have h := hdis.out j i y x hj hxi hji
        refine beq_false_of_ne (fun e => h ?_)
        rw [ByteArray.toList_eq, ByteArray.toList_eq] at e
        exact ba_ext e)
      have hck := fun W (hW : Fr wr W) => Check_row x.row x.ra x.rc W (hel.fr hW) (by rw [hrl]; omega)
      rw [rowE_ok (by rw [hrl]; omega) (by rw [List.any_eq_false]; intro y hy; rw [hfit.out x hmem y hy]; simp), hrl] at hck
      have hnl := isName_le hnmx
      have eg : ∀ args w, (callFunc 61 args).run Tryz.prog w = .ok (.enter 61 args) w := enters_of Tryz.func61 (by kernel_rfl) rfl
      have hcf := fun (W : World) (hW : Fr wr W) (p : Nat) (hp : W.cell? ⟨p, 0, none⟩ = some (.string x.nm)) =>
        ContainsFunc_sym Sy.enc (L.take i) (some ⟨g, 0, none⟩) cp 61 #[.pointer (some ⟨p, 0, none⟩)] (fun y => y.nm.toList == x.nm.toList) W eg (by rw [List.map_take]; exact ((hsy.out.fr hfr).fr hW).1.take i) (by rw [List.length_take]; omega) (SCheck1_pred W p x.nm _ hp)
      rw [hany, List.length_take, Nat.min_eq_left (by rw [← hT.out]; omega)] at hcf
      replace hN := Lib.hid hN
      replace hck := Lib.hid hck
      replace hcf := Lib.hid hcf
      generalize x.nm = nm at *
      generalize x.ra = ra at *
      generalize x.rc = rc at *
      generalize x0.ra = ra0 at *
      generalize x0.rc = rc0 at *
      generalize x0.nm = nm0 at *
      clear hxi hx0 hmem hrl hnmx hany eg hel hel0 hc3
      have z1 : (i : Int) < (T : Int) := by omega
      have z2 : (0 : Int) ≤ (i : Int) := by omega
      rw [Nat.zero_mul, Nat.add_zero] at hc4
      rw [Nat.zero_add] at hc1 hc2
      go_wp2_with fail
      have a1 := new2a wr (.string nm) (.slice ra d rc) 46
      have a2 := new2b wr (.string nm) (.slice ra d rc) 46
      have hfa : Fr wr (wr.alloc (.cells #[.string nm, .slice ra d rc] 46)) := (Fr.refl wr).alloc _
      refine (hN.out _ (by omega)).mono ?_
      rintro e w2 ⟨rfl, rfl⟩
      go_wp2_with fail
      refine (hcf.out _ hfa _ a1.1).mono ?_
      rintro e w3 ⟨rfl, hf3⟩
      have b2 := hf3.keep a2.1
      have hfb := hfa.trans hf3
      clear a1 a2
      go_wp2_with fail
      refine (hck.out _ hfb).mono ?_
      rintro e w4 ⟨rfl, hf4⟩
      have c2 := hf4.keep b2
      have c4 := (hfb.trans hf4).keep hc4
      have hfc := hfb.trans hf4
      clear b2 hcf hck hN hc1 hc2 hc4 hfa hfb hf3 hf4
      go_wp2_with fail
      go_quiet (fail)
      go_wp2_with fail
      go_roundg (gk - 1)
      case measure => omega
      case rel => exact ⟨i + 1, by go_num, by omega, (hfr.trans hfc).drewN _⟩
    · have hdI : decide (i < T) = false := decide_eq_false hi
      go_wp2_with fail
      go_ret
      exact ⟨rfl, hf.trans hfr⟩
end Go.Proofs.YtbpfkmpkadimeaaGreatDoor

/- schismalaw43: example, known. -/
namespace Go.Proofs.YtbpfkmpkadimeaaGreatDoor
open Go.RowKit Go.Lib

def plainSy (x : Sy) : ByteArray × List Int := (x.nm, x.row)
def NotRet (w : World) (Ns As : List (ByteArray × List Int)) (e : Ending) (w' : World) : Prop := ∃ aN aA cN cA N A, e = .returned (.agg #[.slice aN N.length cN, .slice aA A.length cA]) ∧ NotIs w' aN aA cA N A ∧ N.map plainSy = Ns ∧ A.map plainSy = As ∧ Fr w w'

/-- blocks laid one after another -/
def alls (w : World) : List Obj → World
  | [] => w
  | o :: l => alls (w.alloc o) l
theorem alls_size : ∀ (l : List Obj) (w : World), w.heap.size ≤ (alls w l).heap.size
  | [], w => Nat.le_refl _
  | o :: l, w => by have := alls_size l (w.alloc o); rw [World.size_alloc] at this; rw [alls]; omega
theorem alls_old : ∀ (l : List Obj) (w : World) (k : Nat), k < w.heap.size → (alls w l).heap[k]? = w.heap[k]?
  | [], w, k, _ => rfl
  | o :: l, w, k, h => by rw [alls, alls_old l _ k (by simp; omega)]; exact Below.heap_alloc _ _ _ h
theorem alls_get : ∀ (l : List Obj) (w : World) (i : Nat) (o : Obj), l[i]? = some o → (alls w l).heap[w.heap.size + i]? = some o
  | [], w, i, o, h => by simp at h
  | x :: l, w, 0, o, h => by
    simp at h; subst h
    rw [alls, Nat.add_zero, alls_old l _ _ (by simp)]
    exact heap_alloc_new w _
  | x :: l, w, i + 1, o, h => by
    have := alls_get l (w.alloc x) i o (by simpa using h)
    rw [World.size_alloc] at this
    rw [alls, show w.heap.size + (i + 1) = w.heap.size + 1 + i by omega]
    exact this
theorem alls_fr : ∀ (l : List Obj) (w : World), Fr w (alls w l)
  | [], w => Fr.refl w
  | o :: l, w => ((Fr.refl w).alloc o).trans (alls_fr l (w.alloc o))
theorem cells_of {W : World} {b : Nat} {cs : Array Value} {t : TypeId} (h : W.heap[b]? = some (.cells cs t (0, 0))) (i : Nat) : W.cell? ⟨b, i, none⟩ = cs[i]? := by
  unfold World.cell?; rw [h]; rfl
theorem lt_of_heap {W : World} {b : Nat} {o : Obj} (h : W.heap[b]? = some o) : b < W.heap.size := (Array.getElem?_eq_some_iff.1 h).1
/-- a row of one int in a block -/
theorem El.one {W : World} {b : Nat} {x : Int} {t : TypeId} (h : W.heap[b]? = some (.cells #[.int .i64 x] t (0, 0))) : El W iv (some ⟨b, 0, none⟩) [x] :=
  .inr ⟨b, 0, rfl, lt_of_heap h, fun i y hy => by
    match i, hy with
    | 0, hy => simp at hy; subst hy; rw [cells_of h]; rfl
    | i + 1, hy => simp at hy⟩
/-- two symbols in a block -/
theorem Syms.two {W : World} {b : Nat} {x y : Sy} {t : TypeId} (h : W.heap[b]? = some (.cells #[x.enc.1, x.enc.2, y.enc.1, y.enc.2] t (0, 0))) (h1 : El W iv x.ra x.row) (h2 : El W iv y.ra y.row) : Syms W (some ⟨b, 0, none⟩) [x, y] := by
  refine ⟨.inr ⟨b, 0, rfl, lt_of_heap h, fun i z hz => ?_⟩, fun z hz => ?_⟩
  · match i, hz with
    | 0, hz => simp at hz; subst hz; rw [cells_of h, cells_of h]; exact ⟨rfl, rfl⟩
    | 1, hz => simp at hz; subst hz; rw [cells_of h, cells_of h]; exact ⟨rfl, rfl⟩
    | i + 2, hz => simp at hz
  · simp at hz
    rcases hz with rfl | rfl
    · exact h1
    · exact h2

set_option maxRecDepth 100000 in
set_option maxHeartbeats 1000000 in
theorem example_any (w : World) : Calls Tryz.prog 42 #[] w (NotRet w [(⟨#[65]⟩, [0]), (⟨#[66]⟩, [2])] [(⟨#[35]⟩, [1]), (⟨#[98]⟩, [-1])]) := by
  go_enter Tryz.func42, Tryz.ntmps42
  go_wp2_with fail
  obtain ⟨W, hW⟩ : ∃ W, W = alls w [(.cells #[.slice (some ⟨w.heap.size + 1 + 1 + 1, 0, none⟩) 2 2, .slice (some ⟨w.heap.size + 1 + 1 + 1 + 1 + 1 + 1, 0, none⟩) 2 2] 31), (.cells #[.int .i64 0] 3), (.cells #[.int .i64 2] 3), (.cells #[.string ⟨#[65]⟩, .slice (some ⟨w.heap.size + 1, 0, none⟩) 1 1, .string ⟨#[66]⟩, .slice (some ⟨w.heap.size + 1 + 1, 0, none⟩) 1 1] 46), (.cells #[.int .i64 1] 3), (.cells #[.int .i64 (-1)] 3), (.cells #[.string ⟨#[35]⟩, .slice (some ⟨w.heap.size + 1 + 1 + 1 + 1, 0, none⟩) 1 1, .string ⟨#[98]⟩, .slice (some ⟨w.heap.size + 1 + 1 + 1 + 1 + 1, 0, none⟩) 1 1] 46)] := ⟨_, rfl⟩
  have hF : Fr w W := by rw [hW]; exact alls_fr _ w
  have h0 : W.heap[w.heap.size]? = some (.cells #[.slice (some ⟨w.heap.size + 1 + 1 + 1, 0, none⟩) 2 2, .slice (some ⟨w.heap.size + 1 + 1 + 1 + 1 + 1 + 1, 0, none⟩) 2 2] 31) := by rw [hW]; exact alls_get _ w 0 _ rfl
  have h1 : W.heap[w.heap.size + 1]? = some (.cells #[.int .i64 0] 3) := by rw [hW]; exact alls_get _ w 1 _ rfl
  have h2 : W.heap[w.heap.size + 1 + 1]? = some (.cells #[.int .i64 2] 3) := by rw [hW]; exact alls_get _ w 2 _ rfl
  have h3 : W.heap[w.heap.size + 1 + 1 + 1]? = some (.cells #[.string ⟨#[65]⟩, .slice (some ⟨w.heap.size + 1, 0, none⟩) 1 1, .string ⟨#[66]⟩, .slice (some ⟨w.heap.size + 1 + 1, 0, none⟩) 1 1] 46) := by rw [hW]; exact alls_get _ w 3 _ rfl
  have h4 : W.heap[w.heap.size + 1 + 1 + 1 + 1]? = some (.cells #[.int .i64 1] 3) := by rw [hW]; exact alls_get _ w 4 _ rfl
  have h5 : W.heap[w.heap.size + 1 + 1 + 1 + 1 + 1]? = some (.cells #[.int .i64 (-1)] 3) := by rw [hW]; exact alls_get _ w 5 _ rfl
  have h6 : W.heap[w.heap.size + 1 + 1 + 1 + 1 + 1 + 1]? = some (.cells #[.string ⟨#[35]⟩, .slice (some ⟨w.heap.size + 1 + 1 + 1 + 1, 0, none⟩) 1 1, .string ⟨#[98]⟩, .slice (some ⟨w.heap.size + 1 + 1 + 1 + 1 + 1, 0, none⟩) 1 1] 46) := by rw [hW]; exact alls_get _ w 6 _ rfl
  show bodyPost _ _ _ _ _ (alls w [(.cells #[.slice (some ⟨w.heap.size + 1 + 1 + 1, 0, none⟩) 2 2, .slice (some ⟨w.heap.size + 1 + 1 + 1 + 1 + 1 + 1, 0, none⟩) 2 2] 31), (.cells #[.int .i64 0] 3), (.cells #[.int .i64 2] 3), (.cells #[.string ⟨#[65]⟩, .slice (some ⟨w.heap.size + 1, 0, none⟩) 1 1, .string ⟨#[66]⟩, .slice (some ⟨w.heap.size + 1 + 1, 0, none⟩) 1 1] 46), (.cells #[.int .i64 1] 3), (.cells #[.int .i64 (-1)] 3), (.cells #[.string ⟨#[35]⟩, .slice (some ⟨w.heap.size + 1 + 1 + 1 + 1, 0, none⟩) 1 1, .string ⟨#[98]⟩, .slice (some ⟨w.heap.size + 1 + 1 + 1 + 1 + 1, 0, none⟩) 1 1] 46)])
  rw [← hW]
  clear hW
  have c0 := cells_of h0 0
  have c1 := cells_of h0 1
  refine bodyPost_ret (v := .agg #[.slice (some ⟨w.heap.size + 1 + 1 + 1, 0, none⟩) 2 2, .slice (some ⟨w.heap.size + 1 + 1 + 1 + 1 + 1 + 1, 0, none⟩) 2 2]) (by simp [results, Tryz.results42, go_sem, c0, c1]) rfl ?_
  exact ⟨_, _, 2, 2, [⟨⟨#[65]⟩, [0], some ⟨w.heap.size + 1, 0, none⟩, 1⟩, ⟨⟨#[66]⟩, [2], some ⟨w.heap.size + 1 + 1, 0, none⟩, 1⟩], [⟨⟨#[35]⟩, [1], some ⟨w.heap.size + 1 + 1 + 1 + 1, 0, none⟩, 1⟩, ⟨⟨#[98]⟩, [-1], some ⟨w.heap.size + 1 + 1 + 1 + 1 + 1, 0, none⟩, 1⟩], rfl,
    ⟨Syms.two h3 (El.one h1) (El.one h2), Syms.two h6 (El.one h4) (El.one h5), fun e => by cases e⟩, rfl, rfl, hF⟩
end Go.Proofs.YtbpfkmpkadimeaaGreatDoor

/- a small fact on rows of the call's own. -/
namespace Go.Proofs.YtbpfkmpkadimeaaGreatDoor
open Go.RowKit Go.Lib
theorem ownsRow_own_ge {w : World} {base : Nat} {e : TypeId} {size : Nat} {v : Value} {n : Nat} {xs : List Value} (h : w.ownsRow base e size v n xs) (g : Nat) (hg : v.ownBlock = some g) : base ≤ g := by
  rcases h.2 with ⟨rfl, _⟩ | ⟨g', cap, cur, rfl, hb, _⟩
  · simp [Value.ownBlock] at hg
  · have : g' = g := by simpa [Value.ownBlock] using hg
    omega
end Go.Proofs.YtbpfkmpkadimeaaGreatDoor

/- smith.big, unit, wide, kernel, small, Kernel; table.Check. -/
namespace Go.Proofs.YtbpfkmpkadimeaaGreatDoor
open Go.RowKit Go.Lib
attribute [local go_sem ↓] Go.wp_at_zero Go.wp_at_succ

theorem info65 : (Tryz.prog.info? 42).map (fun i => (i.zero, i.size, i.bytes)) = some (some (.string ⟨#[]⟩), 1, 16) := by kernel_rfl
theorem info56 : (Tryz.prog.info? 40).map (fun i => (i.zero, i.size, i.bytes)) = some (some (.slice none 0 0), 1, 24) := by kernel_rfl

/-- a matrix of ints that came in -/
def MatIs (w : World) (a : Option Addr) (m : List (List Int)) : Prop :=
  m = [] ∨ ∃ b o, a = some ⟨b, o, none⟩ ∧ b < w.heap.size ∧ ∀ (i : Nat) (xs : List Int), m[i]? = some xs → ∃ a' c', w.cell? ⟨b, o + i, none⟩ = some (.slice a' xs.length c') ∧ El w iv a' xs
theorem MatIs.fr {w w' : World} {a : Option Addr} {m : List (List Int)} (h : MatIs w a m) (k : Fr w w') : MatIs w' a m := by
  rcases h with h | ⟨b, o, ha, hb, hc⟩
  · exact .inl h
  · refine .inr ⟨b, o, ha, Nat.lt_of_lt_of_le hb k.size, fun i xs hx => ?_⟩
    obtain ⟨a', c', h1, h2⟩ := hc i xs hx
    exact ⟨a', c', k.keep h1, h2.fr k⟩
theorem MatIs.at {w : World} {a : Option Addr} {m : List (List Int)} (h : MatIs w a m) {i : Nat} (hi : i < m.length) :
    ∃ b o a' c', a = some ⟨b, o, none⟩ ∧ w.cell? ⟨b, o + i, none⟩ = some (.slice a' (m[i]).length c') ∧ El w iv a' m[i] := by
  rcases h with h | ⟨b, o, ha, hb, hc⟩
  · subst h; simp at hi
  · obtain ⟨a', c', h1, h2⟩ := hc i _ (List.getElem?_eq_getElem hi)
    exact ⟨b, o, a', c', ha, h1, h2⟩

theorem take_snoc {α : Type} {xs : List α} {k : Nat} {x : α} (h : xs[k]? = some x) : xs.take (k + 1) = xs.take k ++ [x] := by
  rw [List.take_add_one, h]; rfl

def GridRet (w : World) (E : TypeId) (m : List (List Int)) (e : Ending) (w' : World) : Prop := ∃ v hs, e = .returned v ∧ GG w' w.heap.size E v hs m ∧ Hid (∀ h, h ∈ hs → w.heap.size ≤ h.1) ∧ Fr w w'

def GridRet0 (w : World) (E : TypeId) (m : List (List Int)) (e : Ending) (w' : World) : Prop := ∃ v hs, e = .returned v ∧ GG w' w.heap.size E v hs m ∧ Rows0 w' hs m ∧ Hid (∀ h, h ∈ hs → w.heap.size ≤ h.1) ∧ Fr w w'

set_option maxHeartbeats 2000000 in
theorem big_any (m : List (List Int)) (a : Option Addr) (cap n : Nat) (w : World) (hG : G w) (hm : MatIs w a m) (hr : Rect n m) (hn : 1 ≤ n) (hn2 : n ≤ 1000000) (hl : m.length ≤ 1000000) (hb : ∀ r, r ∈ m → ∀ x, x ∈ r → Sm x) :
    Calls Tryz.prog 185 #[.slice a m.length cap] w (GridRet0 w 40 m) := by
  have hG1 := Lib.hid hG
  have hm1 := Lib.hid hm
  have hr1 := Lib.hid hr
  have hb1 := Lib.hid hb
  have hgn := gN_le hG
  obtain ⟨i0, hi, hz0, hz1, hz2⟩ := info_parts info65
  obtain ⟨i1, ji, jz0, jz1, jz2⟩ := info_parts info56
  clear hG hm hr hb
  go_enter Tryz.func185, Tryz.ntmps185
  go_wp2_with fail
  go_loopg [3, 11] m.length (fun k s3 s11 wr => ∃ (j : Nat) (hs : List (Nat × Nat × Nat)), s11 = .int .i64 j ∧ j + k = m.length ∧ Fr w wr ∧ GG wr w.heap.size 40 s3 hs (m.take j) ∧ Rows0 wr hs (m.take j) ∧ Hid (∀ h, h ∈ hs → w.heap.size ≤ h.1))
  case atStart => exact ⟨0, [], rfl, by omega, Fr.refl _, GG.nil _ _ _ hgn, Rows0.nil _, fun h hm => by simp at hm⟩
  case round =>
    obtain ⟨j, hs, rfl, hjk, hf, hgg, hrw, hnew⟩ := hrel
    by_cases hlt : j < m.length
    · obtain ⟨b, o, a', c', rfl, hc, hel⟩ := (hm1.out.fr hf).at hlt
      have hrj := hr1.out.row hlt
      rw [hrj] at hc
      have hgl : (m.take j).length = j := by rw [List.length_take]; omega
      have hsn := take_snoc (List.getElem?_eq_getElem hlt)
      have hbj := hb1.out _ (List.getElem_mem hlt)
      generalize m[j] = row at *
      replace hrj := Lib.hid hrj
      replace hgl := Lib.hid hgl
      replace hsn := Lib.hid hsn
      replace hbj := Lib.hid hbj
      obtain ⟨wo, rfl⟩ : ∃ wo : World, wo = wr := ⟨_, rfl⟩
      obtain ⟨ko, rfl⟩ : ∃ ko : Nat, ko = gk := ⟨_, rfl⟩
      go_wp2_with fail
      go_loopg [6, 17] n (fun k s6 s17 wr2 => ∃ t : Nat, s17 = .int .i64 t ∧ t + k = n ∧ Fr wo wr2 ∧ wr2.ownsRow wo.heap.size 42 1 s6 t ((row.take t).map sv))
      case atStart => exact ⟨0, rfl, by omega, Fr.refl _, World.ownsRow_nil _ _ _ _⟩
      case round =>
        obtain ⟨t, rfl, htk, hf2, hown⟩ := hrel
        by_cases ht : t < n
        · obtain ⟨b2, o2, x, rfl, hbl2, hxt, hcell2⟩ := (hel.fr hf2).at (i := t) (by rw [hrj.out]; exact ht)
          have hGr := (hG1.out.fr hf).fr hf2
          have hsx := hbj.out x (List.mem_of_getElem? hxt)
          unfold Sm at hsx
          have hsn2 := Lib.hid (take_snoc hxt)
          replace hxt := Lib.hid hxt
          go_wp2_with fail
          refine (Of_any _ (by omega) (by omega) _ hGr).mono ?_
          rintro e w2 ⟨rfl, hf3⟩
          go_wp2_with (at_builtin; refine wpList_append_lies _ rfl _ _ 40 (by rfl) _ 42 _ _ 1 16 Tryz.underlying40 hi hz0 hz1 hz2 rfl (by decide) _ t _ (by rfl) (World.ownsRow.alloc (ownsRow_fr hown hf3) _) ⟨w2.heap.size, 0, none⟩ 1 1 [sv x] (by rfl) rfl (cell_one_newN _ _ _ _ (by simp)) (by simp [Value.oneCell']) (by decide) (by unfold maxLen; omega) (by omega) (by have := (hf2.trans hf3).size; simp; omega) (w2.heap.size + 1) (by simp) ?_; intro gA capA wA hownA hgrowA hatA hltA)
          go_wp2_with fail
          go_roundg (gk - 1)
          case measure => omega
          case rel => exact ⟨t + 1, by go_num, by omega, ((hf2.trans hf3).alloc _).grown hgrowA (fun k e => (hown.lt k e).1), by rw [hsn2.out, List.map_append]; exact hownA⟩
        · have hd : decide (t < n) = false := decide_eq_false ht
          obtain rfl : t = n := by omega
          obtain ⟨gb, cp, rfl⟩ := ownsRow_pos hown (by omega)
          rw [List.take_of_length_le (by rw [hrj.out]; omega)] at hown
          obtain ⟨hrow, -, -, hgb, -⟩ := ownsRow_own (Nat.le_trans hgn hf.size) hown
          have hgg2 := hgg.fr hf2
          have hrw0 := Lib.hid (ownsRow_mono hown (Nat.le_trans hgn hf.size))
          have hrw2 := Lib.hid (hrw.fr hf2)
          replace hown := Lib.hid hown
          replace hgg := Lib.hid hgg
          have hrj2 := hrj.out
          have hgl2 := hgl.out
          have hne : u3.ownBlock ≠ some gb := fun e => by have h9 := (hgg.out.own.lt gb e).2; exact Nat.lt_irrefl _ (Nat.lt_of_lt_of_le h9 hgb)
          have hne2 : ∀ h', h' ∈ hs → h'.1 ≠ gb := fun h' hm e2 => by have h9 := hgg.out.lt h' hm; rw [e2] at h9; exact Nat.lt_irrefl _ (Nat.lt_of_lt_of_le h9 hgb)
          have hown3 := hgg2.own
          rw [hgl2] at hown3
          clear hgl2 hrj2
          have hz9 := hf2.size
          go_wp2_with (at_builtin; refine wpList_append_lies _ rfl _ _ 167 (by rfl) _ 40 _ _ 1 24 Tryz.underlying167 ji jz0 jz1 jz2 rfl (by decide) _ j _ (by rfl) (World.ownsRow.alloc hown3 _) ⟨wr.heap.size, 0, none⟩ 1 1 [.slice (some ⟨gb, 0, none⟩) t cp] (by rfl) rfl (cell_one_newN _ _ _ _ (by simp)) (by simp [Value.oneCell']) (by decide) (by unfold maxLen; omega) (by omega) (by have := (hf.trans hf2).size; simp; omega) (wr.heap.size + 1) (by simp) ?_; intro gA capA wA hownA hgrowA hatA hltA)
          have hpush := (hgg2.fr ((Fr.refl wr).alloc _)).pushN (hd := (gb, 0, cp)) (hrow.fr ((Fr.refl wr).alloc _)) hne2 hne hgl.out (by unfold hdr; rw [hrj.out]) hownA hgrowA (hatA.imp id (fun e => by rw [e]; simp))
          rw [← hsn.out] at hpush
          have hfrA : Fr w wA := (((hf.trans hf2).alloc _)).grown hgrowA (fun k e => (hgg2.own.lt k e).1)
          go_roundg (ko - 1)
          case measure => omega
          case rel => 
            have hfxA := Fx.of_grown hgrowA
            have hrwA : Rows0 wA (hs ++ [(gb, 0, cp)]) (m.take j ++ [row]) := by
              refine Rows0.push ((hrw2.out.fr ((Fr.refl wr).alloc _)).fx hfxA (fun hd hm e => ?_)) hgg.out.len rfl ?_
              · obtain ⟨i9, hi9⟩ := List.getElem?_of_mem hm
                have hl9 : i9 < (m.take j).length := by rw [← hgg.out.len]; exact (List.getElem?_eq_some_iff.1 hi9).1
                exact (hgg.out.row i9 hd _ hi9 (List.getElem?_eq_getElem hl9)).2 e
              · rw [hrj.out]
                exact ownsRow_fx (ownsRow_fr hrw0.out ((Fr.refl wr).alloc _)) hfxA (fun g9 hg9 e => hne (by rw [e]; exact hg9.symm ▸ rfl))
            rw [← hsn.out] at hrwA
            exact ⟨j + 1, _, by go_num, by omega, hfrA, hpush, hrwA, fun h hm => by rcases List.mem_append.1 hm with h1 | h1; exact hnew.out h h1; (simp at h1; subst h1; exact Nat.le_trans hf.size hgb)⟩
    · have hd : decide (j < m.length) = false := decide_eq_false hlt
      have hjm : m.take j = m := List.take_of_length_le (by omega)
      rw [hjm] at hgg hrw
      replace hjm := Lib.hid hjm
      go_wp2_with fail
      go_ret
      exact ⟨_, hs, rfl, hgg, hrw, hnew, hf⟩
end Go.Proofs.YtbpfkmpkadimeaaGreatDoor

/- slices.Repeat at one text, smith.unit. -/
namespace Go.Proofs.YtbpfkmpkadimeaaGreatDoor
open Go.RowKit Go.Lib
attribute [local go_sem ↓] Go.wp_at_zero Go.wp_at_succ

theorem size65 : (Tryz.prog.info? 42).map (·.size) = some 1 := by kernel_rfl

theorem Mul_one (n : Nat) (hn : n ≤ 1000000) (w : World) : Calls Tryz.prog 48 #[.int .u64 1, .int .u64 n] w fun e w' => e = .returned (.tuple #[.int .u64 0, .int .u64 n]) ∧ w = w' := by
  have h := Tryz.bits_Mul 1 n (by decide) (by omega) w
  have e1 : 1 * n / 18446744073709551616 = 0 := by omega
  have e2 : 1 * n % 18446744073709551616 = n := by omega
  rw [e1, e2] at h
  exact h.mono fun e w' ⟨he, hw⟩ => ⟨he, hw.symm⟩

theorem ownsRow_whole {w : World} {base : Nat} {e : TypeId} {g n : Nat} {xs : List Value} (h : w.ownsRow base e 1 (.slice (some ⟨g, 0, none⟩) n n) n xs) : w.heap[g]? = some (.cells xs.toArray e (0, 0)) ∧ base ≤ g ∧ xs.length = n := by
  obtain ⟨h1, h2⟩ := h
  rcases h2 with ⟨h2, _⟩ | ⟨g', cap', cur, hv, hg, hh, hn, hc, hs, ht⟩
  · cases h2
  · injection hv with hv1 hv2 hv3
    injection hv1 with hv1; injection hv1 with hv1
    subst hv1; subst hv3
    refine ⟨?_, hg, by simpa using h1⟩
    rw [hh, ← ht, List.take_of_length_le (by simp [hs])]
theorem owns_of_whole {w : World} {base : Nat} {e : TypeId} {g n : Nat} {xs : List Value} (h : w.heap[g]? = some (.cells xs.toArray e (0, 0))) (hb : base ≤ g) (hl : xs.length = n) (hm : n ≤ maxLen) : w.ownsRow base e 1 (.slice (some ⟨g, 0, none⟩) n n) n xs :=
  ⟨by simpa using hl, .inr ⟨g, n, xs.toArray, rfl, hb, h, Nat.le_refl _, hm, by simpa using hl, by rw [← hl]; simp⟩⟩

theorem splice_rep {α : Type} (cur : List α) (z : α) (k m n : Nat) (hl : cur.length = n) (hk : cur.take k = List.replicate k z) (hm : k + m ≤ n) : (splice cur k (List.replicate m z)).length = n ∧ (splice cur k (List.replicate m z)).take (k + m) = List.replicate (k + m) z := by
  refine ⟨by rw [length_splice _ _ _ (by simp; omega), hl], ?_⟩
  unfold splice
  have h1 : (cur.take k).length = k := by rw [List.length_take]; omega
  rw [hk, List.take_append, List.length_replicate, Nat.add_sub_cancel_left, List.take_of_length_le (by simp), List.take_append, List.length_replicate, Nat.sub_self, List.take_zero, List.append_nil, List.take_of_length_le (by simp), List.replicate_append_replicate]

theorem one_at {w : World} {b o : Nat} {v : Value} (h : w.cell? ⟨b, o, none⟩ = some v) : ∀ j u, [v][j]? = some u → w.cell? ((⟨b, o, none⟩ : Addr).add j) = some u := fun j u hu => by
  cases j with
  | zero => simp at hu; subst hu; simpa [Addr.add] using h
  | succ j => simp at hu

theorem rep_at {w : World} {g k m : Nat} {cur : List Value} {v : Value} {e : TypeId} (h : w.heap[g]? = some (.cells cur.toArray e (0, 0))) (ht : cur.take k = List.replicate k v) : ∀ j u, (List.replicate (min k m) v)[j]? = some u → w.cell? ((⟨g, 0, none⟩ : Addr).add j) = some u := fun j u hu => by
  rw [List.getElem?_replicate] at hu
  split at hu
  · injection hu with hu; subst hu
    have hj : cur[j]? = some v := by
      have : (cur.take k)[j]? = some v := by rw [ht, List.getElem?_replicate, if_pos (by omega)]
      rw [List.getElem?_take] at this
      split at this
      · exact this
      · simp at this
    have e1 : ((⟨g, 0, none⟩ : Addr).add j) = ⟨g, j, none⟩ := by unfold Addr.add; split <;> simp_all
    rw [e1]
    simp [World.cell?, h, hj]
  · simp at hu

theorem rep_one (m : Nat) (z : Int) : ∀ v ∈ List.replicate m (sv z), v.oneCell' = true := fun v h => by rw [List.eq_of_mem_replicate h]; rfl

def RepPost (w : World) (n : Nat) (xs : List Value) (e : Ending) (w' : World) : Prop := ∃ g c, e = .returned (.slice (some ⟨g, 0, none⟩) n c) ∧ Fr w w' ∧ w'.ownsRow w.heap.size 42 1 (.slice (some ⟨g, 0, none⟩) n c) n xs

set_option maxRecDepth 100000 in
set_option maxHeartbeats 2000000 in
theorem Repeat_one (b o cp n : Nat) (z : Int) (w : World) (hn1 : 1 ≤ n) (hn2 : n ≤ 1000000) (hc : w.cell? ⟨b, o, none⟩ = some (sv z)) :
    Calls Tryz.prog 13 #[.slice (some ⟨b, o, none⟩) 1 cp, .int .i64 n] w (RepPost w n (List.replicate n (sv z))) := by
  obtain ⟨i0, hi, hz0, hz1, hz2⟩ := info_parts info65
  go_enter Tryz.func13, Tryz.ntmps13
  go_wp2_with fail
  refine (Mul_one n hn2 _).mono ?_; rintro e w' ⟨rfl, rfl⟩
  go_wp2_with (first | (at_make; refine wpList_make_full _ rfl _ _ 40 rfl w.heap.size 42 i0 _ 1 Tryz.underlying40 hi hz0 hz1 _ _ _ _ n (by rfl) (by rfl) (by omega) (by omega) (by rw [hz2]; omega) (by unfold maxLen; omega) (Nat.le_refl _) ?_; intro w2 hown2 hgr2; obtain ⟨hw2, -, hlen2⟩ := ownsRow_whole hown2; have hf2 := (Fr.refl w).grown hgr2 (fun k e => by cases e); generalize (madeCells (Value.cells (Value.string ⟨#[]⟩)) (n * 1)).toList = L at hown2 hw2 hlen2; replace hw2 := Lib.hid hw2; replace hlen2 := Lib.hid hlen2; have hc2 := hf2.keep hc; have hfB : Below w.heap.size w w2 := hf2) | ((with_reducible refine wpList_copy_splice (o := ⟨some 33, _, _, _, _, _⟩) rfl (.tmp 31) (.tmp 32) 40 40 ?ho 42 Tryz.underlying40 size65 (some ⟨w.heap.size, 0, none⟩) (some ⟨b, o, none⟩) n n 1 cp ?hd ?hs w.heap.size 0 L 42 hw2.out [sv z] ?hn ?hpos ?hfit ?h1 w.heap.size w hfB (Nat.le_refl _) ?_); (try case ho => rfl); (try case hd => rfl); (try case hs => rfl); (case hn => exact (Nat.min_eq_left hn1).symm); (case hpos => exact fun _ => ⟨rfl, _, rfl, one_at hc2⟩); (case hfit => have := hlen2.out; simp; omega); (case h1 => simp [Value.oneCell']); intro w3 hw3 hf3))
  have hst := splice_rep L (sv z) 0 1 n hlen2.out (by simp) (by omega)
  replace hst := Lib.hid hst
  clear hown2 hw2 hc2 hfB hgr2 hf2
  go_loopg [8] n (fun m s8 wr => ∃ (k : Nat) (cur : List Value), s8 = .int .i64 k ∧ 1 ≤ k ∧ k ≤ n ∧ n - k ≤ m ∧ Hid (wr.heap[w.heap.size]? = some (.cells cur.toArray 42 (0, 0))) ∧ Hid (cur.length = n) ∧ Hid (cur.take k = List.replicate k (sv z)) ∧ Fr w wr)
  case atStart => exact ⟨1, splice L 0 [sv z], rfl, by omega, by omega, by omega, hw3, hst.out.1, hst.out.2, hf3⟩
  case round =>
    clear hw3 hf3 hst
    obtain ⟨k, cur, rfl, hk1, hk2, hm, hw, hlc, htk, hf⟩ := hrel
    by_cases hlt : k < n
    · have z0 : (0 : Int) ≤ (k : Int) := Int.natCast_nonneg _
      have z1 : (k : Int) ≤ (n : Int) := by omega
      have zne : ¬ n = k := by omega
      obtain ⟨c, hce⟩ : ∃ c, c = min k (n - k) := ⟨_, rfl⟩
      have hc1 : 1 ≤ c := by omega
      have hc2 : k + c ≤ n := by omega
      replace hce := Lib.hid hce
      go_wp2_with fail
      have hBw : Below w.heap.size w wr.drew := hf.drew
      have hww : wr.drew.heap[w.heap.size]? = some (.cells cur.toArray 42 (0, 0)) := hw.out
      have hcs : ∀ j u, (List.replicate c (sv z))[j]? = some u → wr.drew.cell? ((⟨w.heap.size, 0, none⟩ : Addr).add j) = some u := by rw [hce.out]; exact rep_at hww htk.out
      replace hww := Lib.hid hww
      replace hcs := Lib.hid hcs
      go_region_held3 (fun _ => True) (exact trivial) ((refine step_copy_splice (by rfl) (.tmp 41) (.tmp 44) 40 40 (by rfl) 42 Tryz.underlying40 size65 (some ⟨w.heap.size, k, none⟩) (some ⟨w.heap.size, 0, none⟩) (n - k) (n - k) k n (by rfl) (by rfl) w.heap.size k cur 42 hww.out (List.replicate c (sv z)) (by rw [List.length_replicate]; exact hce.out) (fun _ => ⟨rfl, _, rfl, hcs.out⟩) (by have := hlc.out; simp; omega) (rep_one _ _) w.heap.size w hBw (Nat.le_refl _) ?_; intro w4 hw4 hf4))
      have hsp := splice_rep cur (sv z) k c n hlc.out htk.out hc2
      go_wp2_with fail
      go_roundg (gk - 1)
      case measure => omega
      case rel => exact ⟨k + c, splice cur k (List.replicate c (sv z)), by simp; exact IntWalk.i64_in _ (by omega), by omega, by omega, by omega, hw4, hsp.1, hsp.2, hf4⟩
    · have hd : decide (k < n) = false := decide_eq_false hlt
      obtain rfl : k = n := by omega
      have hcur : cur = List.replicate k (sv z) := by have := htk.out; rw [List.take_of_length_le (by rw [hlc.out]; omega)] at this; exact this
      replace hcur := Lib.hid hcur
      go_wp2_with fail
      go_ret
      exact ⟨_, _, rfl, hf, by have h := hw.out; rw [hcur.out] at h; exact owns_of_whole h (Nat.le_refl _) (by simp) (by unfold maxLen; omega)⟩

/-- the rows of a unit matrix -/
def unitRow (n i : Nat) : List Int := (List.replicate n 0).set i 1
def unitM (n : Nat) : List (List Int) := (List.range n).map (unitRow n)

set_option maxHeartbeats 2000000 in
theorem unit_any (n : Nat) (w : World) (hG : G w) (hn1 : 1 ≤ n) (hn2 : n ≤ 1000000) :
    Calls Tryz.prog 186 #[.int .i64 n] w (GridRet w 40 (unitM n)) := by
  have hG1 := Lib.hid hG
  have hgn := gN_le hG
  obtain ⟨i1, ji, jz0, jz1, jz2⟩ := info_parts info56
  have hlen := Lib.hid (show (unitM n).length = n by simp [unitM])
  have hrow : ∀ i, i < n → (unitM n)[i]? = some (unitRow n i) := fun i hi => by simp [unitM, List.getElem?_range hi]
  replace hrow := Lib.hid hrow
  clear hG
  go_enter Tryz.func186, Tryz.ntmps186
  go_wp2_with fail
  go_loopg [3, 7] n (fun k s3 s7 wr => ∃ (j : Nat) (hs : List (Nat × Nat × Nat)), s7 = .int .i64 j ∧ j + k = n ∧ Fr w wr ∧ GG wr w.heap.size 40 s3 hs ((unitM n).take j) ∧ Hid (∀ h, h ∈ hs → w.heap.size ≤ h.1))
  case atStart => exact ⟨0, [], rfl, by omega, Fr.refl _, GG.nil _ _ _ hgn, fun h hm => by simp at hm⟩
  case round =>
    obtain ⟨j, hs, rfl, hjk, hf, hgg, hnew⟩ := hrel
    by_cases hlt : j < n
    · have hsn := Lib.hid (take_snoc (hrow.out j hlt))
      have hgl : ((unitM n).take j).length = j := by rw [List.length_take, hlen.out]; omega
      replace hgl := Lib.hid hgl
      have hc0 : (wr.alloc (.cells #[.string ⟨#[48]⟩] 42)).cell? ⟨wr.heap.size, 0, none⟩ = some (sv 0) := by rw [show sv 0 = .string ⟨#[48]⟩ from by rw [sv, tx_zero]]; exact new_cell _ _ _
      have hrep := (Repeat_one wr.heap.size 0 1 n 0 _ hn1 hn2 hc0)
      replace hc0 := Lib.hid hc0
      go_wp2_with fail
      refine hrep.mono ?_
      clear hrep
      rintro e w2 ⟨g, c, rfl, hf2, hown2⟩
      rw [show List.replicate n (sv 0) = (List.replicate n (0 : Int)).map sv by simp] at hown2
      obtain ⟨hO, -, -, hgb, hcp⟩ := ownsRow_own (by have := hf.size; simp; omega) hown2
      replace hown2 := Lib.hid hown2
      have hf3 : Fr wr w2 := ((Fr.refl wr).alloc _).trans hf2
      rw [World.size_alloc] at hgb
      obtain ⟨hs1, hs2⟩ := hO.2.2 j 0 (by rw [List.getElem?_replicate, if_pos hlt])
      rw [Nat.zero_add] at hs1 hs2
      have hO2 := hO.set (k := j) (by simpa using hlt) 1
      rw [Nat.zero_add, show sv 1 = .string ⟨#[49]⟩ from by rw [sv, tx_one]] at hO2
      have hf4 : Fr wr (w2.setCell ⟨g, j, none⟩ (.string ⟨#[49]⟩)) := hf3.setCell (p := ⟨g, j, none⟩) (by simp; omega) _
      have hgg2 := hgg.fr hf4
      have hO3 := Lib.hid (show Own (w2.setCell ⟨g, j, none⟩ (.string ⟨#[49]⟩)) g 0 (unitRow n j) from hO2)
      have hne : u3.ownBlock ≠ some g := fun e => by have h9 := (hgg.own.lt g e).2; omega
      have hne2 : ∀ h', h' ∈ hs → h'.1 ≠ g := fun h' hm e2 => by have h9 := hgg.lt h' hm; omega
      have hown3 := hgg2.own
      rw [hgl.out] at hown3
      clear hO2 hO
      have z0 : (0 : Int) ≤ (j : Int) := Int.natCast_nonneg _
      have z1 : (j : Int) < (n : Int) := by omega
      have hlen9 := Lib.hid (show (unitRow n j).length = n by simp [unitRow])
      go_wp2_with (at_builtin; refine wpList_append_lies _ rfl _ _ 167 (by rfl) _ 40 _ _ 1 24 Tryz.underlying167 ji jz0 jz1 jz2 rfl (by decide) _ j _ (by rfl) (World.ownsRow.alloc hown3 _) ⟨w2.heap.size, 0, none⟩ 1 1 [.slice (some ⟨g, 0, none⟩) n c] (by rfl) rfl (cell_one_newN _ _ _ _ (by simp)) (by simp [Value.oneCell']) (by decide) (by unfold maxLen; omega) (by omega) (by have := (hf.trans hf3).size; simp; omega) (w2.heap.size + 1) (by simp) ?_; intro gA capA wA hownA hgrowA hatA hltA)
      have hpush := (hgg2.fr ((Fr.refl _).alloc _)).pushN (hd := (g, 0, c)) (hO3.out.fr ((Fr.refl _).alloc _)) hne2 hne hgl.out (by unfold hdr; rw [hlen9.out]) hownA hgrowA (hatA.imp id (fun e => by rw [e]; simp))
      rw [← hsn.out] at hpush
      have hfrA : Fr w wA := (((hf.trans hf4).alloc _)).grown hgrowA (fun k e => (hgg2.own.lt k e).1)
      go_roundg (gk - 1)
      case measure => omega
      case rel => exact ⟨j + 1, _, by go_num, by omega, hfrA, hpush, fun h hm => by rcases List.mem_append.1 hm with h1 | h1; exact hnew.out h h1; (simp at h1; subst h1; have := hf.size; simp; omega)⟩
    · have hd : decide (j < n) = false := decide_eq_false hlt
      have hjm : (unitM n).take j = unitM n := List.take_of_length_le (by rw [hlen.out]; omega)
      rw [hjm] at hgg
      replace hjm := Lib.hid hjm
      go_wp2_with fail
      go_ret
      exact ⟨_, hs, rfl, hgg, hnew, hf⟩
end Go.Proofs.YtbpfkmpkadimeaaGreatDoor

/- smith.wide, kernel, small, Kernel. -/
namespace Go.Proofs.YtbpfkmpkadimeaaGreatDoor
open Go.RowKit Go.Lib
attribute [local go_sem ↓] Go.wp_at_zero Go.wp_at_succ

def wideM (m : List (List Int)) : List (List Int) := List.zipWith (· ++ ·) m (unitM m.length)

def WidePost (w : World) (tF n1 c : Nat) (gF : List (List Int)) (e : Ending) (w' : World) : Prop :=
  ∃ ob oc hs, e = .returned (.tuple #[.slice (some ⟨ob, 0, none⟩) tF oc, .int .i64 c]) ∧ GridIs w' ob 0 hs gF ∧ (∀ h, h ∈ hs → n1 ≤ h.2.2) ∧ Rect n1 gF ∧ tF ≤ gF.length ∧ gF.length ≤ 1000 ∧ Fr w w'

/-- rows that have not been reached yet -/
def RowsFrom (w : World) (A B j : Nat) (hs : List (Nat × Nat × Nat)) (g : List (List Int)) : Prop :=
  ∀ (i : Nat) (h : Nat × Nat × Nat) (xs : List Int), j ≤ i → hs[i]? = some h → g[i]? = some xs → h.2.1 = 0 ∧ A ≤ h.1 ∧ h.1 < B ∧ w.ownsRow gN 42 1 (.slice (some ⟨h.1, 0, none⟩) xs.length h.2.2) xs.length (xs.map sv)

theorem unitM_get {n i : Nat} (h : i < n) : (unitM n)[i]? = some (unitRow n i) := by simp [unitM, List.getElem?_range h]
theorem unitM_len (n : Nat) : (unitM n).length = n := by simp [unitM]
theorem unitRow_len (n i : Nat) : (unitRow n i).length = n := by simp [unitRow]
theorem wideM_len (m : List (List Int)) : (wideM m).length = m.length := by simp [wideM, unitM_len]
theorem wideM_get {m : List (List Int)} {i : Nat} (h : i < m.length) : (wideM m)[i]? = some (m[i] ++ unitRow m.length i) := by
  unfold wideM; rw [List.getElem?_zipWith, List.getElem?_eq_getElem h, unitM_get h]
theorem wideM_rect {m : List (List Int)} {n : Nat} (h : Rect n m) : Rect (n + m.length) (wideM m) := fun r hr => by
  obtain ⟨i, hi⟩ := List.getElem?_of_mem hr
  have hl : i < m.length := by rw [← wideM_len]; exact (List.getElem?_eq_some_iff.1 hi).1
  rw [wideM_get hl] at hi
  injection hi with hi
  rw [← hi, List.length_append, h.row hl, unitRow_len]

set_option maxRecDepth 100000 in
set_option maxHeartbeats 4000000 in
theorem wide_any (m gF : List (List Int)) (a : Option Addr) (cap n F tF : Nat) (w : World) (hG : G w) (hm : MatIs w a m) (hr : Rect n m) (hn : 1 ≤ n) (hn2 : n ≤ 1000) (hl1 : 1 ≤ m.length) (hl : m.length ≤ 1000) (hb : ∀ r, r ∈ m → ∀ x, x ∈ r → Sm x)
    (hh : herm F (n + m.length) 0 (wideM m) 0 = some (gF, tF)) :
    Calls Tryz.prog 104 #[.slice a m.length cap] w (WidePost w tF (n + m.length) n gF) := by
  obtain ⟨b0, o0, a0, c0, rfl, hc0, -⟩ := hm.at (i := 0) (by omega)
  have hbig := big_any m (some ⟨b0, o0, none⟩) cap n w hG hm hr hn (by omega) (by omega) hb
  have hr0 := hr.row (i := 0) (by omega)
  rw [hr0, Nat.add_zero] at hc0
  have hG1 := Lib.hid hG
  have hh1 := Lib.hid hh
  have hr1 := Lib.hid hr
  clear hG hm hb hh hr hr0
  go_enter Tryz.func104, Tryz.ntmps104
  go_wp2_with fail
  refine hbig.mono ?_
  clear hbig
  rintro e w1 ⟨v1, hs1, rfl, hgg1, hrw1, hnew1, hf1⟩
  obtain ⟨gb1, cp1, rfl⟩ := ownsRow_pos hgg1.own (by omega)
  replace hgg1 := Lib.hid hgg1
  replace hrw1 := Lib.hid hrw1
  go_wp2_with fail
  refine (unit_any m.length w1 (hG1.out.fr hf1) hl1 (by omega)).mono ?_
  rintro e w2 ⟨v2, hs2, rfl, hgg2, hnew2, hf2⟩
  obtain ⟨gb2, cp2, hv2⟩ := ownsRow_pos hgg2.own (by rw [unitM_len]; omega)
  rw [unitM_len] at hv2
  subst hv2
  obtain ⟨hu, -, hub, -⟩ := hgg2.grid
  have hg1 := hgg1.out.grid.1
  have hgb1 : gb1 < w1.heap.size := hg1.outer
  have hg2 := Lib.hid (hg1.fr hf2)
  have hgbase := hgg1.out.grid.2.2.1
  have hcp1 := Lib.hid hgg1.out.grid.2.2.2
  have hlt1 := Lib.hid hgg1.out.lt
  have hlen1 := Lib.hid hgg1.out.len
  have hrf : RowsFrom w2 w.heap.size w1.heap.size 0 hs1 m := fun i h xs _ k1 k2 => by
    obtain ⟨p1, p2⟩ := hrw1.out i h xs k1 k2
    exact ⟨p1, hnew1.out h (List.mem_of_getElem? k1), hlt1.out h (List.mem_of_getElem? k1), ownsRow_fr p2 hf2⟩
  replace hrf := Lib.hid hrf
  replace hu := Lib.hid hu
  have hub2 : gb2 ≠ gb1 := by omega
  have hunew : ∀ k, gb gb2 hs2 k → w1.heap.size ≤ k := by
    rintro k (rfl | ⟨h, hm2, rfl⟩)
    · exact hub
    · exact hnew2.out h hm2
  replace hunew := Lib.hid hunew
  obtain ⟨i0, hi, hz0, hz1, hz2⟩ := info_parts info65
  clear hg1 hgg2
  go_wp2_with fail
  go_loopg [21] m.length (fun k s21 wr => ∃ (j : Nat) (hs : List (Nat × Nat × Nat)), s21 = .int .i64 j ∧ j + k = m.length ∧ Fr w wr ∧ Hid (w2.heap.size ≤ wr.heap.size) ∧ GridIs wr gb1 0 hs ((wideM m).take j ++ m.drop j) ∧ RowsFrom wr w.heap.size w1.heap.size j hs m ∧ GridIs wr gb2 0 hs2 (unitM m.length) ∧ Hid (∀ h, h ∈ hs → w.heap.size ≤ h.1) ∧ Hid (∀ (i : Nat) (h : Nat × Nat × Nat), i < j → hs[i]? = some h → n + m.length ≤ h.2.2))
  case atStart => exact ⟨0, hs1, rfl, by omega, hf1.trans hf2, Nat.le_refl _, by simpa using hg2.out, hrf.out, hu.out, hnew1, fun i h hi => absurd hi (Nat.not_lt_zero _)⟩
  case round =>
    obtain ⟨j, hs, rfl, hjk, hf, hsz, hgr, hrr, hur, hnw, hcw⟩ := hrel
    have hwl := wideM_len m
    by_cases hlt : j < m.length
    · have hmid := mid_get (wideM m) m j hwl hlt
      have hmj := List.getElem?_eq_getElem hlt
      have hgl : j < ((wideM m).take j ++ m.drop j).length := by simp [hwl]; omega
      obtain ⟨b1, o1, k1, e1, ca1, cf1, ro1, bo1⟩ := hgr.at hgl
      have hrowj : ((wideM m).take j ++ m.drop j)[j] = m[j] := by
        have := List.getElem?_eq_getElem hgl
        rw [hmid, hmj] at this
        injection this with this; exact this.symm
      rw [hrowj] at ca1 ro1
      obtain ⟨q1, q0, q2, q3⟩ := hrr j _ _ (Nat.le_refl _) e1 hmj
      obtain ⟨b2, o2, k2, e2, ca2, cf2, ro2, bo2⟩ := hur.at (i := j) (by rw [unitM_len]; exact hlt)
      have hun : (unitM m.length)[j]'(by rw [unitM_len]; exact hlt) = unitRow m.length j := by
        have h9 := List.getElem?_eq_getElem (show j < (unitM m.length).length by rw [unitM_len]; exact hlt)
        rw [unitM_get hlt] at h9
        injection h9 with h9; exact h9.symm
      rw [hun] at ca2 ro2
      rw [unitRow_len] at ca2
      have hq1 : o1 = 0 := q1
      subst hq1
      have hrl := hr1.out.row hlt
      rw [hrl] at ca1 q3
      rw [Nat.zero_add] at ca1 cf1 ca2
      have hsrc : ∀ t u, ((unitRow m.length j).map sv)[t]? = some u → wr.drew.cell? ((⟨b2, o2, none⟩ : Addr).add t) = some u := fun t u hu => by
        rw [List.getElem?_map] at hu
        cases hx : (unitRow m.length j)[t]? with
        | none => rw [hx] at hu; simp at hu
        | some x =>
          rw [hx] at hu
          injection hu with hu; subst hu
          have := (ro2.2.2 t x hx).1
          rw [show ((⟨b2, o2, none⟩ : Addr).add t) = ⟨b2, o2 + t, none⟩ by unfold Addr.add; split <;> simp_all]
          exact this
      have z0 : (0 : Int) ≤ (j : Int) := Int.natCast_nonneg _
      have z1 : (j : Int) < (m.length : Int) := by omega
      have hown : wr.drew.ownsRow gN 42 1 (.slice (some ⟨b1, 0, none⟩) n k1) n ((m[j]).map sv) := q3
      have hset := mid_set (wideM m) m j hwl hlt _ (wideM_get hlt)
      replace hgr := Lib.hid hgr
      replace hrr := Lib.hid hrr
      replace hur := Lib.hid hur
      replace hsrc := Lib.hid hsrc
      replace hown := Lib.hid hown
      replace hset := Lib.hid hset
      replace hmj := Lib.hid hmj
      replace e1 := Lib.hid e1
      replace e2 := Lib.hid e2
      replace hwl := Lib.hid hwl
      replace hrl := Lib.hid hrl
      clear hmid hrowj hun q3
      go_wp2_with fail
      have hone : ∀ u ∈ (unitRow m.length j).map sv, u.oneCell' = true := fun u hu => by obtain ⟨x, _, rfl⟩ := List.mem_map.1 hu; rfl
      have hml : ((unitRow m.length j).map sv).length = m.length * 1 := by simp [unitRow_len]
      have hbs : gN ≤ wr.drew.heap.size := Nat.le_trans (gN_le hG1.out) hf.size
      have hmx : n + m.length ≤ maxLen := by unfold maxLen; omega
      have hkeep : ∀ wA, wr.drew.grownBy wA (Value.slice (some ⟨b1, 0, none⟩) n k1).ownBlock → wA.cell? ⟨gb1, j, none⟩ = some (.slice (some ⟨b1, 0, none⟩) n k1) ∧ wA.frozen? ⟨gb1, j, none⟩ = false := fun wA hg =>
        ⟨(Fx.of_grown hg).keep (q := ⟨gb1, j, none⟩) (w := wr.drew) ca1 (fun e => bo1 (by injection e)), (Fx.of_grown hg).keepf (q := ⟨gb1, j, none⟩) (w := wr.drew) ca1 cf1 (fun e => bo1 (by injection e))⟩
      replace hone := Lib.hid hone
      replace hml := Lib.hid hml
      go_region_law ((refine step_append_lies _ rfl (.tmp 29) (.tmp 33) 40 rfl gN 42 i0 (.string ⟨#[]⟩) 1 16 Tryz.underlying40 hi hz0 hz1 hz2 rfl (by decide) (.slice (some ⟨b1, 0, none⟩) n k1) n ((m[j]).map sv) (by simp [Act.eval]) hown.out ⟨b2, o2, none⟩ m.length k2 ((unitRow m.length j).map sv) (by simp [Act.eval]) hml.out hsrc.out hone.out hl1 hmx (by omega) hbs wr.heap.size rfl ?_; intro gA capA wA hownA hgrowA hatA hltA; have ca3 := hkeep wA hgrowA; obtain ⟨ca3, cf3⟩ := ca3))
      all_goals
        go_wp2_with fail
        have hfx : Fx (· = b1) wr wA := ((Fx.refl _ wr).drew).trans ((Fx.of_grown hgrowA).mono (fun k e => by injection e with e; exact e.symm))
        rw [← List.map_append] at hownA
        have hOA := (ownsRow_own (Nat.le_refl _) hownA).1
        have hcA := (ownsRow_own (Nat.le_refl _) hownA).2.2.2.2
        have hjl9 : j < hs.length := (List.getElem?_eq_some_iff.1 e1.out).1
        have hat2 : gA = b1 ∨ wr.heap.size ≤ gA := hatA.imp (fun e => by injection e with e; exact e.symm) (fun e => by omega)
        have hhd : Value.slice (some ⟨gA, 0, none⟩) (n + m.length) capA = hdr (gA, 0, capA) (m[j] ++ unitRow m.length j) := by unfold hdr; rw [List.length_append, hrl.out, unitRow_len]
        rw [hhd]
        have hG2 := hgr.out.setHead (hd' := (gA, 0, capA)) e1.out hfx hOA hat2
        rw [Nat.zero_add, hset.out] at hG2
        have hs9 : Fx (· = gb1) wA (wA.setCell ⟨gb1, j, none⟩ (hdr (gA, 0, capA) (m[j] ++ unitRow m.length j))) := Fx.setCell (p := (· = gb1)) (q := ⟨gb1, j, none⟩) (Fx.refl _ wA) (.inl rfl) _
        have hpp : Fx (fun k => k = b1 ∨ k = gb1) wr (wA.setCell ⟨gb1, j, none⟩ (hdr (gA, 0, capA) (m[j] ++ unitRow m.length j))) := (hfx.mono (fun k e => .inl e)).trans (hs9.mono (fun k e => .inr e))
        have hfrw : Fr w (wA.setCell ⟨gb1, j, none⟩ (hdr (gA, 0, capA) (m[j] ++ unitRow m.length j))) := ((Fx.of_fr hf).trans hpp).toFr (fun k hk e => by rcases e with e | e <;> omega)
        have hu2 := hur.out.fx hpp (fun k hk e => by have := hunew.out k hk; rcases e with e | e <;> omega)
        have hrr2 : RowsFrom (wA.setCell ⟨gb1, j, none⟩ (hdr (gA, 0, capA) (m[j] ++ unitRow m.length j))) w.heap.size w1.heap.size (j + 1) (hs.set j (gA, 0, capA)) m := fun i h xs hi k1 k2 => by
          rw [List.getElem?_set, if_neg (by omega)] at k1
          obtain ⟨p1, p2, p3, p4⟩ := hrr.out i h xs (by omega) k1 k2
          have hap := hgr.out.apart i j _ _ k1 e1.out (by omega)
          refine ⟨p1, p2, p3, ownsRow_fx p4 hpp (fun g9 hg9 e => ?_)⟩
          have e9 : h.1 = g9 := by simpa [Value.ownBlock] using hg9
          rcases e with e | e
          · exact hap (by rw [e9, e])
          · have hil : i < ((wideM m).take j ++ m.drop j).length := by rw [← hgr.out.len]; exact (List.getElem?_eq_some_iff.1 k1).1
            exact (hgr.out.row i h _ k1 (List.getElem?_eq_getElem hil)).2 (by rw [e9, e])
        go_roundg (gk - 1)
        case measure => omega
        case rel => exact ⟨j + 1, _, by go_num, by omega, hfrw, Nat.le_trans hsz.out hpp.size, hG2, hrr2, hu2, fun h hm => by rcases List.mem_or_eq_of_mem_set hm with h1 | h1; exact hnw.out h h1; (subst h1; rcases hat2 with e | e; (rw [e]; exact q0); exact Nat.le_trans hf.size e), fun i h hi k1 => by rw [List.getElem?_set] at k1; split at k1; ((try rw [if_pos hjl9] at k1); injection k1 with k1; subst k1; exact hcA); exact hcw.out i h (by omega) k1⟩
    · have hd : decide (j < m.length) = false := decide_eq_false hlt
      have hjm : j = m.length := by omega
      have hgE : (wideM m).take j ++ m.drop j = wideM m := by rw [hjm, List.drop_length, List.append_nil, List.take_of_length_le (by rw [hwl]; omega)]
      rw [hgE] at hgr
      have hherm := herm_any gb1 0 cp1 hs (wideM m) gF F (n + m.length) (n + m.length) tF wr (hG1.out.fr hf) hgr (wideM_rect hr1.out) (by omega) (by rw [hwl]; omega) (Nat.le_refl _) (by rw [hwl]; exact hcp1.out) hh1.out
      rw [hwl, Int.natCast_add] at hherm
      have hge : ∀ k, gb gb1 hs k → w.heap.size ≤ k := by
        rintro k (rfl | ⟨h, hm2, rfl⟩)
        · exact hgbase
        · exact hnw.out h hm2
      replace hge := Lib.hid hge
      replace hgr := Lib.hid hgr
      replace hur := Lib.hid hur
      have hwl9 := Lib.hid hwl
      clear hgE hwl hrr hjm
      go_wp2_with fail
      refine hherm.mono ?_
      clear hherm
      rintro e w5 ⟨rfl, ht5, hl5, hr5, hs5, hb5, hfx5, hg5⟩
      have hcap5 : ∀ h, h ∈ hs5 → n + m.length ≤ h.2.2 := fun h hm => by
        obtain ⟨i9, hi9⟩ := List.getElem?_of_mem (hb5.2 h hm)
        have h9 := (List.getElem?_eq_some_iff.1 hi9).1
        exact hcw.out i9 h (by rw [hgr.out.len, hwl9.out] at h9; omega) hi9
      replace hcap5 := Lib.hid hcap5
      go_wp2_with fail
      go_ret2
      exact ⟨gb1, cp1, hs5, rfl, hg5, hcap5.out, hr5, by rw [hl5]; exact ht5, by rw [hl5]; omega, ((Fx.of_fr hf).trans hfx5).toFr (fun k hk e => by have := hge.out k e; omega)⟩
end Go.Proofs.YtbpfkmpkadimeaaGreatDoor

/- smith.kernel, small, Kernel; table.Check. -/
namespace Go.Proofs.YtbpfkmpkadimeaaGreatDoor
open Go.RowKit Go.Lib
attribute [local go_sem ↓] Go.wp_at_zero Go.wp_at_succ

/-- the right parts of the rows whose left part is zero -/
def kerTo (n : Nat) (g : List (List Int)) : List (List Int) := (g.filter (fun l => decide ((n : Int) ≤ leadS l))).map (·.drop n)
theorem kerTo_snoc (n : Nat) (g : List (List Int)) (l : List Int) : kerTo n (g ++ [l]) = kerTo n g ++ if (n : Int) ≤ leadS l then [l.drop n] else [] := by
  unfold kerTo
  rw [List.filter_append, List.map_append]
  by_cases h : (n : Int) ≤ leadS l <;> simp [h]

theorem Own.el {w : World} {b o : Nat} {xs : List Int} (h : Own w b o xs) : El w sv (some ⟨b, o, none⟩) xs :=
  .inr ⟨b, o, rfl, h.2.1, fun i x hx => (h.2.2 i x hx).1⟩
theorem Own.drop {w : World} {b o : Nat} {xs : List Int} (h : Own w b o xs) (n : Nat) : Own w b (o + n) (xs.drop n) :=
  ⟨h.1, h.2.1, fun j x hx => by rw [List.getElem?_drop] at hx; have := h.2.2 (n + j) x hx; rw [show o + n + j = o + (n + j) by omega]; exact this⟩

def KerPost (w : World) (g : List (List Int)) (e : Ending) (w' : World) : Prop := ∃ v hs, e = .returned v ∧ GG w' w.heap.size 40 v hs g ∧ Fr w w'

set_option maxHeartbeats 4000000 in
theorem kernel_any (ob oc tF n n1 : Nat) (hs : List (Nat × Nat × Nat)) (g : List (List Int)) (w : World) (hG : G w) (hg : GridIs w ob 0 hs g) (hr : Rect n1 g) (hn : n < n1) (hn1 : n1 ≤ 1000000) (hl : g.length ≤ 1000000) (ht : tF ≤ g.length) (hcap : ∀ h, h ∈ hs → n1 ≤ h.2.2) :
    Calls Tryz.prog 103 #[.slice (some ⟨ob, 0, none⟩) tF oc, .int .i64 n] w (KerPost w (kerTo n (g.take tF))) := by
  have hgn := gN_le hG
  obtain ⟨i1, ji, jz0, jz1, jz2⟩ := info_parts info56
  replace hg := Lib.hid hg
  replace hr := Lib.hid hr
  replace hcap := Lib.hid hcap
  clear hG
  go_enter Tryz.func103, Tryz.ntmps103
  go_wp2_with fail
  go_loopg [5, 10] tF (fun k s5 s10 wr => ∃ (j : Nat) (hO : List (Nat × Nat × Nat)), s10 = .int .i64 j ∧ j + k = tF ∧ Fr w wr ∧ GG wr w.heap.size 40 s5 hO (kerTo n (g.take j)) ∧ Hid (∀ h, h ∈ hO → ∃ (i : Nat) (h' : Nat × Nat × Nat), i < j ∧ hs[i]? = some h' ∧ h'.1 = h.1))
  case atStart => exact ⟨0, [], rfl, by omega, Fr.refl _, GG.nil _ _ _ hgn, fun h hm => by simp at hm⟩
  case round =>
    obtain ⟨j, hO, rfl, hjk, hf, hgg, hfrom⟩ := hrel
    by_cases hlt : j < tF
    · have hjl : j < g.length := by omega
      obtain ⟨b1, o1, k1, e1, ca1, cf1, ro1, bo1⟩ := (hg.out.fr hf).at hjl
      have hrl := hr.out.row hjl
      rw [Nat.zero_add] at ca1
      have hsn := take_snoc (List.getElem?_eq_getElem hjl)
      have hk1 := hcap.out _ (List.mem_of_getElem? e1)
      have hlead := lead_any g[j] (some ⟨b1, o1, none⟩) k1
      generalize hgj : g[j] = row at *
      rw [hrl] at ca1 hlead
      have hks := kerTo_snoc n (g.take j) row
      rw [← hsn] at hks
      replace hgj := Lib.hid hgj
      replace hsn := Lib.hid hsn
      replace hfrom := Lib.hid hfrom
      replace hgg := Lib.hid hgg
      replace e1 := Lib.hid e1
      replace ro1 := Lib.hid ro1
      replace hrl := Lib.hid hrl
      have zt : (j : Int) < (tF : Int) := by omega
      by_cases hle : (n : Int) ≤ leadS row
      · rw [if_pos hle] at hks
        have hdl : decide ((n : Int) ≤ leadS row) = true := decide_eq_true hle
        replace hks := Lib.hid hks
        go_wp2_with fail
        refine (hlead _ ro1.out.el (by omega)).mono ?_
        clear hlead
        rintro e w2 ⟨rfl, hf2⟩
        have hln : (kerTo n (g.take j)).length ≤ j := by
          unfold kerTo; rw [List.length_map]; exact Nat.le_trans (List.length_filter_le _ _) (by rw [List.length_take]; omega)
        have hgg2 := hgg.out.fr hf2
        have hne1 : ∀ h, h ∈ hO → h.1 ≠ b1 := fun h hm e9 => by
          obtain ⟨i9, h9, hi9, q1, q2⟩ := hfrom.out h hm
          exact hg.out.apart i9 j _ _ q1 e1.out (by omega) (by rw [q2, e9])
        have hbl : b1 < w.heap.size := (hg.out.row j _ _ e1.out (List.getElem?_eq_getElem hjl)).1.2.1
        have hne2 : u5.ownBlock ≠ some b1 := fun e9 => by have := (hgg2.own.lt b1 e9).1; omega
        obtain ⟨L, hL⟩ : ∃ L, L = (kerTo n (g.take j)).length := ⟨_, rfl⟩
        have hown3 := hgg2.own
        rw [← hL] at hown3 hln
        replace hL := Lib.hid hL
        replace hgg2 := Lib.hid hgg2
        have hnk : ¬ k1 = n := by omega
        have hz9 := (hf.trans hf2).size
        go_wp2_with (at_builtin; refine wpList_append_lies _ rfl _ _ 167 (by rfl) _ 40 _ _ 1 24 Tryz.underlying167 ji jz0 jz1 jz2 rfl (by decide) _ L _ (by rfl) (World.ownsRow.alloc hown3 _) ⟨w2.heap.size, 0, none⟩ 1 1 [.slice (some ⟨b1, o1 + n, none⟩) (n1 - n) (k1 - n)] (by rfl) rfl (cell_one_newN _ _ _ _ (by simp)) (by simp [Value.oneCell']) (by decide) (by unfold maxLen; omega) (by omega) (by skip; simp; omega) (w2.heap.size + 1) (by simp) ?_; intro gA capA wA hownA hgrowA hatA hltA)
        have hpush := (hgg2.out.fr ((Fr.refl w2).alloc _)).pushN (hd := (b1, o1 + n, k1 - n)) (xs := row.drop n) (((ro1.out.drop n).fr hf2).fr ((Fr.refl w2).alloc _)) hne1 hne2 hL.out.symm (by unfold hdr; rw [List.length_drop, hrl.out]) hownA hgrowA (hatA.imp id (fun e => by rw [e]; simp))
        rw [← hks.out] at hpush
        have hfrA : Fr w wA := (((hf.trans hf2).alloc _)).grown hgrowA (fun k e => (hgg2.out.own.lt k e).1)
        go_roundg (gk - 1)
        case measure => omega
        case rel =>
          refine ⟨j + 1, _, by go_num, by omega, hfrA, hpush, fun h hm => ?_⟩
          rcases List.mem_append.1 hm with h1 | h1
          · obtain ⟨i9, h9, hi9, q1, q2⟩ := hfrom.out h h1; exact ⟨i9, h9, by omega, q1, q2⟩
          · simp at h1; subst h1; exact ⟨j, _, by omega, e1.out, rfl⟩
      · rw [if_neg hle, List.append_nil] at hks
        replace hks := Lib.hid hks
        have hle2 : leadS row < (n : Int) := by omega
        have hdl : decide ((n : Int) ≤ leadS row) = false := decide_eq_false hle
        clear hle
        go_wp2_with fail
        refine (hlead _ ro1.out.el (by omega)).mono ?_
        clear hlead
        rintro e w2 ⟨rfl, hf2⟩
        go_wp2_with fail
        go_roundg (gk - 1)
        case measure => omega
        case rel => exact ⟨j + 1, hO, by go_num, by omega, hf.trans hf2, by rw [hks.out]; exact hgg.out.fr hf2, fun h hm => by obtain ⟨i9, h9, hi9, q1, q2⟩ := hfrom.out h hm; exact ⟨i9, h9, by omega, q1, q2⟩⟩
    · have hd : decide (j < tF) = false := decide_eq_false hlt
      obtain rfl : j = tF := by omega
      go_wp2_with fail
      go_ret
      exact ⟨_, hO, rfl, hgg, hf⟩
end Go.Proofs.YtbpfkmpkadimeaaGreatDoor

/- The same for rows of ints. -/
namespace Go.Proofs.YtbpfkmpkadimeaaGreatDoor
open Go.RowKit Go.Lib

/-- a row of ints that the call has made -/
def OwnI (w : World) (b o : Nat) (xs : List Int) : Prop :=
  gN ≤ b ∧ b < w.heap.size ∧ ∀ j x, xs[j]? = some x → w.cell? ⟨b, o + j, none⟩ = some (iv x) ∧ w.frozen? ⟨b, o + j, none⟩ = false
theorem OwnI.fx {p : Nat → Prop} {w w' : World} {b o : Nat} {xs : List Int} (h : OwnI w b o xs) (k : Fx p w w') (hp : ¬ p b) : OwnI w' b o xs :=
  ⟨h.1, Nat.lt_of_lt_of_le h.2.1 k.size, fun j x hx => by rw [k.cell h.2.1 hp, k.frozen h.2.1 hp]; exact h.2.2 j x hx⟩
theorem OwnI.fr {w w' : World} {b o : Nat} {xs : List Int} (h : OwnI w b o xs) (k : Fr w w') : OwnI w' b o xs :=
  h.fx (p := fun _ => False) (Fx.of_fr k) (fun e => e)
theorem OwnI.el {w : World} {b o : Nat} {xs : List Int} (h : OwnI w b o xs) : El w iv (some ⟨b, o, none⟩) xs :=
  .inr ⟨b, o, rfl, h.2.1, fun i x hx => (h.2.2 i x hx).1⟩
/-- a row of integer texts that the call has made -/
theorem ownsRow_ownI {w : World} {base : Nat} {e : TypeId} {g n m cap : Nat} {xs : List Int} (hb : gN ≤ base) (h : w.ownsRow base e 1 (.slice (some ⟨g, 0, none⟩) n cap) m (xs.map iv)) : OwnI w g 0 xs ∧ n = m ∧ m = xs.length ∧ base ≤ g ∧ n ≤ cap := by
  have h1 := h.1
  obtain ⟨a, b, c, d, f⟩ := ownsRow_some h
  refine ⟨⟨by omega, c, fun j x hx => ?_⟩, a, by simpa using h1.symm, b, d⟩
  have := f j (iv x) (by rw [List.getElem?_map, hx]; rfl)
  simpa using this

structure GI (w : World) (base : Nat) (E : TypeId) (v : Value) (hs : List (Nat × Nat × Nat)) (g : List (List Int)) : Prop where
  gbase : gN ≤ base
  len : hs.length = g.length
  own : w.ownsRow base E 1 v g.length (hdrs hs g)
  row : ∀ (i : Nat) (h : Nat × Nat × Nat) (xs : List Int), hs[i]? = some h → g[i]? = some xs → OwnI w h.1 h.2.1 xs ∧ v.ownBlock ≠ some h.1
  apart : ∀ (i j : Nat) (hi hj : Nat × Nat × Nat), hs[i]? = some hi → hs[j]? = some hj → i ≠ j → hi.1 ≠ hj.1

theorem GI.nil (w : World) (base : Nat) (E : TypeId) (h : gN ≤ base) : GI w base E (.slice none 0 0) [] [] :=
  ⟨h, rfl, World.ownsRow_nil _ _ _ _, fun i h xs h1 => by simp at h1, fun i j hi hj h1 => by simp at h1⟩
theorem GI.fr {w w' : World} {base : Nat} {E : TypeId} {v : Value} {hs : List (Nat × Nat × Nat)} {g : List (List Int)} (h : GI w base E v hs g) (k : Fr w w') : GI w' base E v hs g :=
  ⟨h.gbase, h.len, ownsRow_fr h.own k, fun i hd xs h1 h2 => ⟨(h.row i hd xs h1 h2).1.fr k, (h.row i hd xs h1 h2).2⟩, h.apart⟩
theorem GI.lt {w : World} {base : Nat} {E : TypeId} {v : Value} {hs : List (Nat × Nat × Nat)} {g : List (List Int)} (h : GI w base E v hs g) : ∀ hd, hd ∈ hs → hd.1 < w.heap.size := fun hd hm => by
  obtain ⟨i, hi⟩ := List.getElem?_of_mem hm
  have hl : i < g.length := by rw [← h.len]; exact (List.getElem?_eq_some_iff.1 hi).1
  exact (h.row i hd _ hi (List.getElem?_eq_getElem hl)).1.2.1
/-- behind an append of a row's header -/
theorem GI.push {w w' : World} {base : Nat} {E : TypeId} {v : Value} {hs : List (Nat × Nat × Nat)} {g : List (List Int)} (h : GI w base E v hs g) {hd : Nat × Nat × Nat} {xs : List Int} (ho : OwnI w hd.1 hd.2.1 xs)
    (hne : ∀ h', h' ∈ hs → h'.1 ≠ hd.1) (hv : v.ownBlock ≠ some hd.1) {gb cap : Nat} (hown : w'.ownsRow base E 1 (.slice (some ⟨gb, 0, none⟩) (g.length + 1) cap) (g.length + 1) (hdrs hs g ++ [hdr hd xs]))
    (hg : w.grownBy w' v.ownBlock) (hat : v.ownBlock = some gb ∨ w.heap.size ≤ gb) : GI w' base E (.slice (some ⟨gb, 0, none⟩) (g.length + 1) cap) (hs ++ [hd]) (g ++ [xs]) := by
  have hfx := Fx.of_grown hg
  have hrow : ∀ (i : Nat) (h0 : Nat × Nat × Nat) (ys : List Int), hs[i]? = some h0 → g[i]? = some ys → OwnI w' h0.1 h0.2.1 ys ∧ gb ≠ h0.1 := fun i h0 ys h1 h2 => by
    obtain ⟨a, b⟩ := h.row i h0 ys h1 h2
    refine ⟨a.fx hfx (fun e => b e), ?_⟩
    rcases hat with e | e
    · intro e2; rw [e2] at e; exact b e
    · have := a.2.1; omega
  refine ⟨h.gbase, by simp [h.len], ?_, fun i h0 ys h1 h2 => ?_, fun i j hi hj h1 h2 hij => ?_⟩
  · rw [hdrs_push _ _ _ _ h.len]; simpa using hown
  · by_cases hi : i < g.length
    · rw [List.getElem?_append_left (by rw [h.len]; exact hi)] at h1
      rw [List.getElem?_append_left hi] at h2
      obtain ⟨a, b⟩ := hrow i h0 ys h1 h2
      exact ⟨a, fun e => by injection e with e; exact b e⟩
    · rw [List.getElem?_append_right (by omega)] at h2
      rw [List.getElem?_append_right (by rw [h.len]; omega)] at h1
      rw [List.getElem?_singleton] at h1 h2
      split at h1
      · split at h2
        · injection h1 with h1; injection h2 with h2; subst h1; subst h2
          refine ⟨ho.fx hfx (fun e => hv e), fun e => ?_⟩
          injection e with e
          rcases hat with e2 | e2
          · have e3 : gb = hd.1 := e
            rw [e3] at e2; exact hv e2
          · have := ho.2.1
            have e3 : gb = hd.1 := e
            omega
        · simp at h2
      · simp at h1
  · have key : ∀ (i : Nat) (h0 : Nat × Nat × Nat), (hs ++ [hd])[i]? = some h0 → (i < hs.length ∧ hs[i]? = some h0) ∨ (i = hs.length ∧ h0 = hd) := fun i h0 h => by
      by_cases hi : i < hs.length
      · rw [List.getElem?_append_left hi] at h; exact .inl ⟨hi, h⟩
      · rw [List.getElem?_append_right (by omega), List.getElem?_singleton] at h
        split at h
        · injection h with h; exact .inr ⟨by omega, h.symm⟩
        · simp at h
    rcases key i hi h1 with ⟨a1, a2⟩ | ⟨a1, a2⟩ <;> rcases key j hj h2 with ⟨b1, b2⟩ | ⟨b1, b2⟩
    · exact h.apart i j _ _ a2 b2 hij
    · subst b2; exact hne _ (List.mem_of_getElem? a2)
    · subst a2; exact (hne _ (List.mem_of_getElem? b2)).symm
    · omega

theorem GI.pushN {w w' : World} {base : Nat} {E : TypeId} {v u : Value} {hs : List (Nat × Nat × Nat)} {g : List (List Int)} (h : GI w base E v hs g) {hd : Nat × Nat × Nat} {xs : List Int} (ho : OwnI w hd.1 hd.2.1 xs)
    (hne : ∀ h', h' ∈ hs → h'.1 ≠ hd.1) (hv : v.ownBlock ≠ some hd.1) {gb cap n : Nat} (hn : g.length = n) (hu : u = hdr hd xs) (hown : w'.ownsRow base E 1 (.slice (some ⟨gb, 0, none⟩) (n + 1) cap) (n + 1) (hdrs hs g ++ [u]))
    (hg : w.grownBy w' v.ownBlock) (hat : v.ownBlock = some gb ∨ w.heap.size ≤ gb) : GI w' base E (.slice (some ⟨gb, 0, none⟩) (n + 1) cap) (hs ++ [hd]) (g ++ [xs]) := by
  subst hn; subst hu
  exact h.push ho hne hv hown hg hat


theorem ownsRow_slice {w : World} {base : Nat} {e : TypeId} {size : Nat} {v : Value} {n : Nat} {xs : List Value} (h : w.ownsRow base e size v n xs) : ∃ a c, v = .slice a n c ∧ (n = 0 ∨ ∃ g, a = some ⟨g, 0, none⟩) := by
  obtain ⟨_, h2⟩ := h
  rcases h2 with ⟨hv, h2⟩ | ⟨g, cap, _, hv, _⟩
  · subst h2; exact ⟨none, 0, hv, .inl rfl⟩
  · exact ⟨_, cap, hv, .inr ⟨g, rfl⟩⟩

theorem GI.fx {w w' : World} {p : Nat → Prop} {base : Nat} {E : TypeId} {v : Value} {hs : List (Nat × Nat × Nat)} {g : List (List Int)} (h : GI w base E v hs g) (k : Fx p w w') (hp : ∀ b, v.ownBlock = some b → ¬ p b) (hr : ∀ hd, hd ∈ hs → ¬ p hd.1) : GI w' base E v hs g :=
  ⟨h.gbase, h.len, ownsRow_fx h.own k hp, fun i hd xs h1 h2 => ⟨(h.row i hd xs h1 h2).1.fx k (hr hd (List.mem_of_getElem? h1)), (h.row i hd xs h1 h2).2⟩, h.apart⟩

theorem GI.mat {w : World} {base n : Nat} {E : TypeId} {a : Option Addr} {c : Nat} {hs : List (Nat × Nat × Nat)} {g : List (List Int)} (h : GI w base E (.slice a n c) hs g) : MatIs w a g := by
  by_cases h0 : g.length = 0
  · exact .inl (List.eq_nil_of_length_eq_zero h0)
  · obtain ⟨gb, cp, hv⟩ := ownsRow_pos h.own (by omega)
    injection hv with hv1 hv2 hv3
    subst hv1; subst hv2; subst hv3
    obtain ⟨p1, p2, p3, p4, p5⟩ := ownsRow_some h.own
    refine .inr ⟨gb, 0, rfl, p3, fun i xs hx => ?_⟩
    have hl : i < hs.length := by rw [h.len]; exact (List.getElem?_eq_some_iff.1 hx).1
    have hi := List.getElem?_eq_getElem hl
    have hc := p5 i (hdr hs[i] xs) (by unfold hdrs; rw [List.getElem?_zipWith, hi, hx])
    exact ⟨_, _, by rw [Nat.zero_add]; exact hc.1, (h.row i _ _ hi hx).1.el⟩

theorem ownsRow_empty (w : World) (base : Nat) (e : TypeId) (size : Nat) (hb : base ≤ w.heap.size) : (w.alloc (.cells #[] e)).ownsRow base e size (.slice (some ⟨w.heap.size, 0, none⟩) 0 0) 0 [] :=
  ⟨by simp, .inr ⟨w.heap.size, 0, #[], rfl, hb, heap_alloc_new w _, Nat.le_refl _, by unfold maxLen; omega, by simp, by simp⟩⟩
end Go.Proofs.YtbpfkmpkadimeaaGreatDoor

/- smith.small, Kernel; table.Check. -/
namespace Go.Proofs.YtbpfkmpkadimeaaGreatDoor
open Go.RowKit Go.Lib
attribute [local go_sem ↓] Go.wp_at_zero Go.wp_at_succ

theorem infoInt : (Tryz.prog.info? 3).map (fun i => (i.zero, i.size, i.bytes)) = some (some (.int .i64 0), 1, 8) := by kernel_rfl
theorem infoRow : (Tryz.prog.info? 44).map (fun i => (i.zero, i.size, i.bytes)) = some (some (.slice none 0 0), 1, 24) := by kernel_rfl

theorem ownsRow_nn {w : World} {base : Nat} {e : TypeId} {size : Nat} {v : Value} {n : Nat} {xs : List Value} (h : w.ownsRow base e size v n xs) (hn : v ≠ .slice none 0 0) : ∃ g cap, v = .slice (some ⟨g, 0, none⟩) n cap := by
  obtain ⟨_, h2⟩ := h
  rcases h2 with ⟨h2, _⟩ | ⟨g, cap, _, hv, _⟩
  · exact absurd h2 hn
  · exact ⟨g, cap, hv⟩

/-- a matrix and no error -/
def MatRet (w : World) (g : List (List Int)) (e : Ending) (w' : World) : Prop := ∃ a c, e = .returned (.tuple #[.slice a g.length c, .int .i64 0]) ∧ MatIs w' a g ∧ Fr w w'

set_option maxRecDepth 100000 in
set_option maxHeartbeats 4000000 in
theorem small_any (base : Nat) (E : TypeId) (a : Option Addr) (c : Nat) (hs : List (Nat × Nat × Nat)) (g : List (List Int)) (w : World) (hG : G w) (hg : GG w base E (.slice a g.length c) hs g) (hl : g.length ≤ 1000000) (hr : ∀ r, r ∈ g → r.length ≤ 1000000) (hb : ∀ r, r ∈ g → ∀ x, x ∈ r → fitB x = true) :
    Calls Tryz.prog 102 #[.slice a g.length c] w (MatRet w g) := by
  have hgn := gN_le hG
  obtain ⟨i0, hi, hz0, hz1, hz2⟩ := info_parts infoInt
  obtain ⟨i1, ji, jz0, jz1, jz2⟩ := info_parts infoRow
  replace hg := Lib.hid hg
  replace hr := Lib.hid hr
  replace hb := Lib.hid hb
  replace hG := Lib.hid hG
  go_enter Tryz.func102, Tryz.ntmps102
  go_wp2_with fail
  go_loopg [4, 14] g.length (fun k s4 s14 wr => ∃ (j : Nat) (hO : List (Nat × Nat × Nat)), s14 = .int .i64 j ∧ j + k = g.length ∧ Fr w wr ∧ GI wr w.heap.size 44 s4 hO (g.take j))
  case atStart => exact ⟨0, [], rfl, by omega, Fr.refl _, GI.nil _ _ _ hgn⟩
  case round =>
    obtain ⟨j, hO, rfl, hjk, hf, hgi⟩ := hrel
    by_cases hlt : j < g.length
    · obtain ⟨gb, cp, hv⟩ := ownsRow_pos hg.out.own (by omega)
      injection hv with hv1 hv2 hv3
      subst hv1; subst hv3
      obtain ⟨b1, o1, k1, e1, ca1, cf1, ro1, bo1⟩ := (hg.out.grid.1.fr hf).at hlt
      have hsn := take_snoc (List.getElem?_eq_getElem hlt)
      have hrj := hr.out _ (List.getElem_mem hlt)
      have hbj := hb.out _ (List.getElem_mem hlt)
      rw [Nat.zero_add] at ca1
      generalize hgj : g[j] = row at *
      have hgl : (g.take j).length = j := by rw [List.length_take]; omega
      obtain ⟨n, hn⟩ : ∃ n, n = row.length := ⟨_, rfl⟩
      rw [← hn] at ca1 hrj
      replace hgj := Lib.hid hgj
      replace hsn := Lib.hid hsn
      replace hbj := Lib.hid hbj
      replace hgl := Lib.hid hgl
      replace hn := Lib.hid hn
      replace ro1 := Lib.hid ro1
      replace hgi := Lib.hid hgi
      clear hv2
      obtain ⟨wo, rfl⟩ : ∃ wo : World, wo = wr := ⟨_, rfl⟩
      obtain ⟨ko, rfl⟩ : ∃ ko : Nat, ko = gk := ⟨_, rfl⟩
      go_wp2_with fail
      go_loopg [7, 21] n (fun k s7 s21 wr2 => ∃ t : Nat, s21 = .int .i64 t ∧ t + k = n ∧ Fr wo wr2 ∧ wr2.ownsRow wo.heap.size 3 1 s7 t ((row.take t).map iv) ∧ s7 ≠ .slice none 0 0)
      case atStart => exact ⟨0, rfl, by omega, (Fr.refl _).alloc _, by simpa using ownsRow_empty wo wo.heap.size _ _ (Nat.le_refl _), by simp⟩
      case round =>
        obtain ⟨t, rfl, htk, hf2, hown, hnn⟩ := hrel
        by_cases ht : t < n
        · obtain ⟨b2, o2, x, hae, hbl2, hxt, hcell2⟩ := (ro1.out.el.fr hf2).at (i := t) (by rw [← hn.out]; exact ht)
          injection hae with hae; injection hae with hb2 ho2
          subst hb2; subst ho2
          have hfx := hbj.out x (List.mem_of_getElem? hxt)
          unfold fitB at hfx
          have hfx := of_decide_eq_true hfx
          obtain ⟨x1, x2⟩ := hfx
          have hd1 : decide ((1000000000 : Int) < x) = false := decide_eq_false (by omega)
          have hd2 : decide (x < -1000000000) = false := decide_eq_false (by omega)
          have hsn2 := Lib.hid (take_snoc hxt)
          replace hxt := Lib.hid hxt
          go_wp2_with fail
          refine (Small_ok x (by omega) (by omega) _).mono ?_
          rintro e w2 ⟨rfl, hf3⟩
          go_wp2_with (at_builtin; refine wpList_append_lies _ rfl _ _ 44 (by rfl) _ 3 _ _ 1 8 Tryz.underlying44 hi hz0 hz1 hz2 rfl (by decide) _ t _ (by rfl) (World.ownsRow.alloc (ownsRow_fr hown hf3) _) ⟨w2.heap.size, 0, none⟩ 1 1 [iv x] (by rfl) rfl (cell_one_newN _ _ _ _ (by simp)) (by simp [Value.oneCell']) (by decide) (by unfold maxLen; omega) (by omega) (by have := (hf2.trans hf3).size; simp; omega) (w2.heap.size + 1) (by simp) ?_; intro gA capA wA hownA hgrowA hatA hltA)
          go_wp2_with fail
          go_roundg (gk - 1)
          case measure => omega
          case rel => exact ⟨t + 1, by go_num, by omega, ((hf2.trans hf3).alloc _).grown hgrowA (fun k e => (hown.lt k e).1), by rw [hsn2.out, List.map_append]; exact hownA, by simp⟩
        · have hd : decide (t < n) = false := decide_eq_false ht
          obtain rfl : t = n := by omega
          obtain ⟨gb7, cp7, rfl⟩ := ownsRow_nn hown hnn
          rw [List.take_of_length_le (by rw [← hn.out]; omega)] at hown
          obtain ⟨hrow, -, -, hgb, -⟩ := ownsRow_ownI (Nat.le_trans hgn hf.size) hown
          have hgi2 := hgi.out.fr hf2
          replace hown := Lib.hid hown
          have hgl2 := hgl.out
          have hne : u4.ownBlock ≠ some gb7 := fun e => by have h9 := (hgi.out.own.lt gb7 e).2; exact Nat.lt_irrefl _ (Nat.lt_of_lt_of_le h9 hgb)
          have hne2 : ∀ h', h' ∈ hO → h'.1 ≠ gb7 := fun h' hm e2 => by have h9 := hgi.out.lt h' hm; rw [e2] at h9; exact Nat.lt_irrefl _ (Nat.lt_of_lt_of_le h9 hgb)
          have hown3 := hgi2.own
          rw [hgl2] at hown3
          clear hgl2 hnn
          replace hgi2 := Lib.hid hgi2
          have hz9 := (hf.trans hf2).size
          go_wp2_with (at_builtin; refine wpList_append_lies _ rfl _ _ 34 (by rfl) _ 44 _ _ 1 24 Tryz.underlying34 ji jz0 jz1 jz2 rfl (by decide) _ j _ (by rfl) (World.ownsRow.alloc hown3 _) ⟨wr.heap.size, 0, none⟩ 1 1 [.slice (some ⟨gb7, 0, none⟩) t cp7] (by rfl) rfl (cell_one_newN _ _ _ _ (by simp)) (by simp [Value.oneCell']) (by decide) (by unfold maxLen; omega) (by omega) (by skip; simp; omega) (wr.heap.size + 1) (by simp) ?_; intro gA capA wA hownA hgrowA hatA hltA)
          have hpush := (hgi2.out.fr ((Fr.refl wr).alloc _)).pushN (hd := (gb7, 0, cp7)) (hrow.fr ((Fr.refl wr).alloc _)) hne2 hne hgl.out (by unfold hdr; rw [← hn.out]) hownA hgrowA (hatA.imp id (fun e => by rw [e]; simp))
          rw [← hsn.out] at hpush
          have hfrA : Fr w wA := (((hf.trans hf2).alloc _)).grown hgrowA (fun k e => (hgi2.out.own.lt k e).1)
          go_roundg (ko - 1)
          case measure => omega
          case rel => exact ⟨j + 1, _, by go_num, by omega, hfrA, hpush⟩
    · have hd : decide (j < g.length) = false := decide_eq_false hlt
      have hjm : g.take j = g := List.take_of_length_le (by omega)
      rw [hjm] at hgi
      obtain ⟨a9, c9, rfl, -⟩ := ownsRow_slice hgi.own
      replace hjm := Lib.hid hjm
      go_wp2_with fail
      go_ret2
      exact ⟨a9, c9, rfl, hgi.mat, hf⟩

/-! ### table.Check -/
def great (n : Int) : Bool := decide (1000000000 < n ∨ n < -1000000000)
def tabE1 (n0 : Nat) : List (List Int) → Int
  | [] => 0
  | r :: l => if 12 < r.length then 4 else if r.length ≠ n0 then 5 else if r.any (fun x => !fitB x) then 4 else tabE1 n0 l
def tabE (m : List (List Int)) : Int := if 12 < m.length then 4 else tabE1 (rowAt m 0).length m

theorem great_any (n : Int) (w : World) : Calls Tryz.prog 109 #[.int .i64 n] w fun e w' => e = .returned (.bool (!fitB n)) ∧ w = w' := by
  by_cases h1 : 1000000000 < n
  · have hf := Lib.hid (show (!fitB n) = true by unfold fitB; rw [decide_eq_false (by omega)]; rfl)
    have d1 : decide ((1000000000 : Int) < n) = true := decide_eq_true h1
    clear h1
    go_enter Tryz.func109, Tryz.ntmps109
    go_wp2_with fail
    go_ret
    exact ⟨ret_bool hf.out.symm, rfl⟩
  · have d1 : decide ((1000000000 : Int) < n) = false := decide_eq_false h1
    by_cases h2 : n < -1000000000
    · have hf := Lib.hid (show (!fitB n) = true by unfold fitB; rw [decide_eq_false (by omega)]; rfl)
      have d2 : decide (n < -1000000000) = true := decide_eq_true h2
      clear h1 h2
      go_enter Tryz.func109, Tryz.ntmps109
      go_wp2_with fail
      go_ret
      exact ⟨ret_bool hf.out.symm, rfl⟩
    · have hf := Lib.hid (show (!fitB n) = false by unfold fitB; rw [decide_eq_true (by omega)]; rfl)
      have d2 : decide (n < -1000000000) = false := decide_eq_false h2
      clear h1 h2
      go_enter Tryz.func109, Tryz.ntmps109
      go_wp2_with fail
      go_ret
      exact ⟨ret_bool hf.out.symm, rfl⟩
theorem great_pred (w : World) (xs : List Int) : Pred w 109 #[] iv (fun n => !fitB n) xs := fun x W _ _ =>
  (great_any x W).mono fun _ _ ⟨h, k⟩ => ⟨h, Fr.of_eq k⟩

/-- a right matrix of some columns -/
def TabOk (n : Nat) (m : List (List Int)) : Prop := m.length ≤ 12 ∧ n ≤ 12 ∧ Rect n m ∧ ∀ r, r ∈ m → ∀ x, x ∈ r → fitB x = true

set_option maxHeartbeats 4000000 in
theorem tabCheck_ok (m : List (List Int)) (a : Option Addr) (cap n : Nat) (w : World) (hm : MatIs w a m) (hok : TabOk n m) :
    Calls Tryz.prog 46 #[.slice a m.length cap] w fun e w' => e = .returned (.int .i64 0) ∧ Fr w w' := by
  obtain ⟨h1, h2, h3, h4⟩ := hok
  replace hm := Lib.hid hm
  replace h3 := Lib.hid h3
  replace h4 := Lib.hid h4
  go_enter Tryz.func46, Tryz.ntmps46
  go_wp2_with fail
  go_loopg [10] m.length (fun k s10 wr => ∃ j : Nat, s10 = .int .i64 j ∧ j + k = m.length ∧ Fr w wr)
  case atStart => exact ⟨0, rfl, by omega, Fr.refl _⟩
  case round =>
    obtain ⟨j, rfl, hjk, hf⟩ := hrel
    by_cases hlt : j < m.length
    · obtain ⟨b, o, a', c', rfl, hc, hel⟩ := (hm.out.fr hf).at hlt
      obtain ⟨b9, o9, a9, c9, hae, hc9, hel9⟩ := (hm.out.fr hf).at (i := 0) (by omega)
      injection hae with hae; injection hae with hb9 ho9
      subst hb9; subst ho9
      rw [h3.out.row hlt] at hc
      rw [h3.out.row (i := 0) (by omega), Nat.add_zero] at hc9
      have hany : (m[j]).any (fun x => !fitB x) = false := List.any_eq_false.2 (fun x hx => by rw [h4.out _ (List.getElem_mem hlt) x hx]; simp)
      have eg : ∀ args w, (callFunc 109 args).run Tryz.prog w = .ok (.enter 109 args) w := enters_of Tryz.func109 (by kernel_rfl) rfl
      have hcf := ContainsFunc_row m[j] a' c' 109 #[] (fun n => !fitB n) wr eg hel (by rw [h3.out.row hlt]; omega) (great_pred wr _)
      rw [h3.out.row hlt, hany] at hcf
      clear eg hel hel9 hany
      have z0 : (0 : Int) ≤ (j : Int) := Int.natCast_nonneg _
      have z1 : (j : Int) < (m.length : Int) := by omega
      go_wp2_with fail
      refine hcf.mono ?_
      clear hcf
      rintro e w2 ⟨rfl, hf2⟩
      go_wp2_with fail
      go_roundg (gk - 1)
      case measure => omega
      case rel => exact ⟨j + 1, by go_num, by omega, hf.trans hf2⟩
    · have hd : decide (j < m.length) = false := decide_eq_false hlt
      go_wp2_with fail
      go_ret
      exact ⟨rfl, hf⟩
end Go.Proofs.YtbpfkmpkadimeaaGreatDoor
