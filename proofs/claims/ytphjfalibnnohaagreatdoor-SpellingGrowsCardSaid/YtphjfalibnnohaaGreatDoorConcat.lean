/- slices.Concat of two slices of symbols. -/
import Derived.Test.YtphjfalibnnohaaGreatDoorPair
import Derived.Test.YtphjfalibnnohaaGreatDoorGG
import Derived.Test.YtphjfalibnnohaaGreatDoorLaysGrow
import Derived.Laws.AppendOwnNone
namespace Go.Proofs.YtphjfalibnnohaaGreatDoor
open Go.RowKit Go.Lib

/-- the cells of pairs, one behind another -/
def flat2 : List (Value × Value) → List Value
  | [] => []
  | x :: l => x.1 :: x.2 :: flat2 l
theorem flat2_length (l : List (Value × Value)) : (flat2 l).length = l.length * 2 := by
  induction l with
  | nil => rfl
  | cons x l ih => simp [flat2, ih]; omega
theorem flat2_append (l m : List (Value × Value)) : flat2 (l ++ m) = flat2 l ++ flat2 m := by
  induction l with
  | nil => rfl
  | cons x l ih => simp [flat2, ih]
theorem flat2_get : ∀ (l : List (Value × Value)) (i : Nat) (x : Value × Value), l[i]? = some x → (flat2 l)[i * 2]? = some x.1 ∧ (flat2 l)[i * 2 + 1]? = some x.2
  | [], i, x, h => by simp at h
  | y :: l, 0, x, h => by simp at h; subst h; simp [flat2]
  | y :: l, i + 1, x, h => by
    have := flat2_get l i x (by simpa using h)
    have e : (i + 1) * 2 = i * 2 + 1 + 1 := by omega
    rw [e]
    simpa [flat2] using this
theorem flat2_of : ∀ (l : List (Value × Value)) (j : Nat) (u : Value), (flat2 l)[j]? = some u → ∃ i x, l[i]? = some x ∧ ((j = i * 2 ∧ u = x.1) ∨ (j = i * 2 + 1 ∧ u = x.2))
  | [], j, u, h => by simp [flat2] at h
  | y :: l, 0, u, h => by simp [flat2] at h; exact ⟨0, y, rfl, .inl ⟨rfl, h.symm⟩⟩
  | y :: l, 1, u, h => by simp [flat2] at h; exact ⟨0, y, rfl, .inr ⟨rfl, h.symm⟩⟩
  | y :: l, j + 2, u, h => by
    simp [flat2] at h
    obtain ⟨i, x, hx, h⟩ := flat2_of l j u h
    refine ⟨i + 1, x, by simpa using hx, ?_⟩
    rcases h with ⟨h1, h2⟩ | ⟨h1, h2⟩
    · exact .inl ⟨by omega, h2⟩
    · exact .inr ⟨by omega, h2⟩
theorem flat2_one {l : List (Value × Value)} (h : ∀ z, z ∈ l → z.1.oneCell' = true ∧ z.2.oneCell' = true) : ∀ u, u ∈ flat2 l → u.oneCell' = true := fun u hu => by
  obtain ⟨j, hj⟩ := List.getElem?_of_mem hu
  obtain ⟨i, x, hx, h2⟩ := flat2_of l j u hj
  have := h x (List.mem_of_getElem? hx)
  rcases h2 with ⟨_, rfl⟩ | ⟨_, rfl⟩
  · exact this.1
  · exact this.2
theorem Prs.cells {w : World} {b o : Nat} {xs : List (Value × Value)} (h : Prs w (some ⟨b, o, none⟩) xs) : ∀ j u, (flat2 xs)[j]? = some u → w.cell? ((⟨b, o, none⟩ : Addr).add j) = some u := fun j u hu => by
  obtain ⟨i, x, hx, h2⟩ := flat2_of xs j u hu
  have e : (⟨b, o, none⟩ : Addr).add j = ⟨b, o + j, none⟩ := by
    unfold Addr.add
    split
    · rename_i e; rw [e]; rfl
    · rfl
  rw [e]
  rcases h with h | ⟨b', o', ha, hb, hc⟩
  · subst h; simp at hx
  · injection ha with ha; injection ha with h3 h4
    subst h3; subst h4
    have := hc i x hx
    rcases h2 with ⟨rfl, rfl⟩ | ⟨rfl, rfl⟩
    · exact this.1
    · rw [← Nat.add_assoc]; exact this.2
theorem Prs.addr {w : World} {a : Option Addr} {xs : List (Value × Value)} (h : Prs w a xs) (hp : 0 < xs.length) : ∃ b o, a = some ⟨b, o, none⟩ := by
  rcases h with h | ⟨b, o, ha, _⟩
  · subst h; simp at hp
  · exact ⟨b, o, ha⟩
/-- a row of pairs that the call has made -/
theorem ownsRow_prs {w : World} {base : Nat} {e : TypeId} {g n m cap : Nat} {xs : List (Value × Value)} (h : w.ownsRow base e 2 (.slice (some ⟨g, 0, none⟩) n cap) m (flat2 xs)) : Prs w (some ⟨g, 0, none⟩) xs ∧ n = m ∧ m = xs.length ∧ base ≤ g ∧ n ≤ cap ∧ g < w.heap.size := by
  have h1 := h.1
  obtain ⟨a, b, c, d, f⟩ := ownsRow_some h
  refine ⟨.inr ⟨g, 0, rfl, c, fun i x hx => ?_⟩, a, by rw [flat2_length] at h1; omega, b, d, c⟩
  have := flat2_get xs i x hx
  rw [Nat.zero_add]
  exact ⟨(f _ _ this.1).1, (f _ _ this.2).1⟩

theorem infoSym : (Tryz.prog.info? 35).map (fun i => (i.zero, i.size, i.bytes)) = some (some (.agg #[.string ⟨#[]⟩, .slice none 0 0]), 2, 40) := by kernel_rfl

/-- a slice of pairs of the call's own -/
def PrsRet (w : World) (xs : List (Value × Value)) (e : Ending) (w' : World) : Prop := ∃ g cp, e = .returned (.slice (some ⟨g, 0, none⟩) xs.length cp) ∧ Prs w' (some ⟨g, 0, none⟩) xs ∧ w.heap.size ≤ g ∧ xs.length ≤ cp ∧ Fr w w'

set_option maxRecDepth 100000 in
set_option maxHeartbeats 4000000 in
theorem Concat_sym (p c : Nat) (a b : Option Addr) (ca cb : Nat) (xs ys : List (Value × Value)) (w : World) (_hp : p < w.heap.size) (hc1 : w.cell? ⟨p, 0, none⟩ = some (.slice a xs.length ca)) (hc2 : w.cell? ⟨p, 1, none⟩ = some (.slice b ys.length cb))
    (hx : Prs w a xs) (hy : Prs w b ys) (hnb : b = none → cb = 0 ∧ ys = []) (ho1 : ∀ z, z ∈ xs → z.1.oneCell' = true ∧ z.2.oneCell' = true) (ho2 : ∀ z, z ∈ ys → z.1.oneCell' = true ∧ z.2.oneCell' = true) (hl : xs.length + ys.length ≤ 1000000) (hpos : 0 < xs.length) :
    Calls Tryz.prog 68 #[.slice (some ⟨p, 0, none⟩) 2 c] w (PrsRet w (xs ++ ys)) := by
  obtain ⟨i0, hi, hz0, hz1, hz2⟩ := info_parts infoSym
  obtain ⟨ab, ao, rfl⟩ := hx.addr hpos
  have hgrow := fun W => Any8.slices_Grow_grow Tryz.growSy i0 _ hi hz0 (by rw [hz1]; decide) none 0 0 (xs.length + ys.length) [] W (Nat.le_refl _) (by omega) (by rw [hz2]; omega) (by omega) (by rw [hz1]; simp) (fun _ => rfl) (fun _ h => by cases h)
  change ∀ W, Calls Tryz.prog 98 #[.slice none 0 0, .int .i64 ((xs.length + ys.length : Nat) : Int)] W (fun e w' => e = .returned (.slice (some ⟨W.heap.size, 0, none⟩) 0 (grownCap W (0 + (xs.length + ys.length)) 0 35)) ∧
    w' = W.drew.alloc (.cells (([] : List Value).toArray ++ Builtin.zeroCells (Value.agg #[.string ⟨#[]⟩, .slice none 0 0]).cells (0 + (xs.length + ys.length) - 0) ++ Builtin.zeroCells (Value.agg #[.string ⟨#[]⟩, .slice none 0 0]).cells (grownCap W (0 + (xs.length + ys.length)) 0 35 - (0 + (xs.length + ys.length)))) 35)) at hgrow
  obtain ⟨n, hn⟩ : ∃ n, n = xs.length := ⟨_, rfl⟩
  obtain ⟨m, hm⟩ : ∃ m, m = ys.length := ⟨_, rfl⟩
  have hlen : (xs ++ ys).length = n + m := by rw [List.length_append, hn, hm]
  have hown0 : ∀ W : World, W.heap.size = w.heap.size → (W.alloc (.cells (([] : List Value).toArray ++ Builtin.zeroCells (Value.agg #[.string ⟨#[]⟩, .slice none 0 0]).cells (0 + (n + m) - 0) ++ Builtin.zeroCells (Value.agg #[.string ⟨#[]⟩, .slice none 0 0]).cells (grownCap w (0 + (n + m)) 0 35 - (0 + (n + m)))) 35)).ownsRow w.heap.size 35 2 (.slice (some ⟨w.heap.size, 0, none⟩) 0 (grownCap w (0 + (n + m)) 0 35)) 0 [] := fun W hW => by
    have hge := grownCap_ge w (0 + (n + m)) 0 35
    have hle := grownCap_le_maxLen w (0 + (n + m)) 0 35 (by unfold maxLen; omega)
    have hnew := heap_alloc_new W (.cells (([] : List Value).toArray ++ Builtin.zeroCells (Value.agg #[.string ⟨#[]⟩, .slice none 0 0]).cells (0 + (n + m) - 0) ++ Builtin.zeroCells (Value.agg #[.string ⟨#[]⟩, .slice none 0 0]).cells (grownCap w (0 + (n + m)) 0 35 - (0 + (n + m)))) 35)
    rw [hW] at hnew
    refine ⟨rfl, .inr ⟨w.heap.size, _, _, rfl, Nat.le_refl _, hnew, Nat.zero_le _, hle, ?_, by simp⟩⟩
    rw [Array.size_append, Array.size_append, size_zeroCells, size_zeroCells]
    generalize grownCap w (0 + (n + m)) 0 35 = C at *
    show ([] : List Value).toArray.size + (0 + (n + m) - 0) * 2 + (C - (0 + (n + m))) * 2 = C * 2
    have e0 : ([] : List Value).toArray.size = 0 := rfl
    rw [e0]
    omega
  rw [← hn, ← hm] at hl
  rw [← hn] at hpos hc1
  rw [← hm] at hc2
  rw [← hn, ← hm] at hgrow
  have hgrow1 := Lib.hid (show ∀ W, W.heap.size = w.heap.size → W.tape = w.tape → W.drawn = w.drawn → Calls Tryz.prog 98 #[.slice none 0 0, .int .i64 ((n + m : Nat) : Int)] W (fun e w' => ∃ C, e = .returned (.slice (some ⟨w.heap.size, 0, none⟩) 0 C) ∧ Fr W w' ∧ w'.ownsRow w.heap.size 35 2 (.slice (some ⟨w.heap.size, 0, none⟩) 0 C) 0 []) from fun W h1 h2 h3 => by
    have hC : grownCap W (0 + (n + m)) 0 35 = grownCap w (0 + (n + m)) 0 35 := by unfold grownCap; rw [h2, h3]
    have hw := hown0 W.drew h1
    have h := hgrow W
    rw [hC, h1] at h
    refine h.mono ?_
    rintro e w' ⟨rfl, rfl⟩
    exact ⟨_, rfl, (Fr.refl W).drew.alloc _, hw⟩)
  have hx1 := Lib.hid hx
  have hy1 := Lib.hid hy
  have hn1 := Lib.hid hn
  have hm1 := Lib.hid hm
  have hlen1 := Lib.hid hlen
  have ho1 := Lib.hid ho1
  have ho2 := Lib.hid ho2
  have hnb := Lib.hid hnb
  rename_i q1 q2 q3
  clear q1 q2 q3 hx hy hn hm hlen hgrow hown0
  cases b with
  | none =>
    obtain ⟨rfl, rfl⟩ := hnb.out rfl
    obtain rfl : m = 0 := hm1.out
    have hg9 := hgrow1.out
    simp only [Nat.add_zero] at hg9
    replace hgrow1 := Lib.hid hg9
    clear hg9
    go_enter Tryz.func68, Tryz.ntmps68
    go_wp2_with fail
    refine wp_loop_rounds 3 ?_
    rw [rounds_succ]
    go_wp2_with fail
    rw [rounds_succ]
    go_wp2_with fail
    rw [rounds_succ]
    go_wp2_with fail
    skip
    refine (hgrow1.out _ rfl rfl rfl).mono ?_
    rintro e w1 ⟨C, rfl, hf1, hown1⟩
    have hcA := hf1.keep hc1
    have hcB := hf1.keep hc2
    go_wp2_with fail
    refine wp_loop_rounds 3 ?_
    rw [rounds_succ]
    have hxc := Lib.hid ((hx1.out.fr hf1).cells)
    have hfl1 := Lib.hid (flat2_length xs)
    have hs1 := hf1.size
    go_wp2_with (at_builtin; refine wpList_append_lies _ rfl _ _ 28 (by rfl) w.heap.size 35 i0 _ 2 40 Tryz.underlying28 hi hz0 hz1 hz2 rfl (by decide) _ 0 _ (by rfl) hown1 ⟨ab, ao, none⟩ n ca (flat2 xs) (by rfl) (by rw [hfl1.out, ← hn1.out]) hxc.out (flat2_one ho1.out) hpos (by unfold maxLen; omega) (by omega) (by omega) w1.heap.size rfl ?_; intro g2 cap2 w2 hown2 hgr2 hat2 hlt2)
    have hg2 : w.heap.size ≤ g2 := by
      have := (ownsRow_some hown2).2.1
      exact this
    have hf2 : Fr w w2 := hf1.grown hgr2 (fun k e => by simp [Value.ownBlock] at e; omega)
    replace hcA := hf2.keep hc1
    replace hcB := hf2.keep hc2
    rw [List.nil_append, Nat.zero_add] at hown2
    clear hgr2 hat2 hown1 hgrow1 hxc
    go_wp2_with fail
    rw [rounds_succ]
    go_wp2_with (at_builtin; refine wpList_append_own_none rfl _ _ 28 (by rfl) w.heap.size 35 i0 2 Tryz.underlying28 hi _ n (flat2 xs) (by rfl) hown2 (by rfl) ?_)
    obtain ⟨hp2, -, -, -, hcap2, -⟩ := ownsRow_prs hown2
    have hfin := Lib.hid (show PrsRet w (xs ++ []) (.returned (.slice (some ⟨g2, 0, none⟩) n cap2)) w2 from ⟨g2, cap2, by rw [hlen1.out]; rfl, by rw [List.append_nil]; exact hp2, hg2, by rw [hlen1.out]; exact hcap2, hf2⟩)
    go_wp2_with fail
    rw [rounds_succ]
    go_wp2_with fail
    go_ret
    exact hfin.out
  | some bb =>
    have hyc : ∀ j u, (flat2 ys)[j]? = some u → w.cell? (bb.add j) = some u := by
      by_cases h0 : ys.length = 0
      · have : ys = [] := List.eq_nil_of_length_eq_zero h0
        intro j u hu; rw [this] at hu; simp [flat2] at hu
      · obtain ⟨b1, o1, e⟩ := hy1.out.addr (by omega)
        injection e with e
        subst e
        exact hy1.out.cells
    have hfl2 := Lib.hid (flat2_length ys)
    replace hyc := Lib.hid hyc
    go_enter Tryz.func68, Tryz.ntmps68
    go_wp2_with fail
    refine wp_loop_rounds 3 ?_
    rw [rounds_succ]
    go_wp2_with fail
    rw [rounds_succ]
    go_wp2_with fail
    rw [rounds_succ]
    go_wp2_with fail
    rw [show ((n : Int) + (m : Int)) = ((n + m : Nat) : Int) by omega]
    refine (hgrow1.out _ rfl rfl rfl).mono ?_
    rintro e w1 ⟨C, rfl, hf1, hown1⟩
    have hcA := hf1.keep hc1
    have hcB := hf1.keep hc2
    go_wp2_with fail
    refine wp_loop_rounds 3 ?_
    rw [rounds_succ]
    have hxc := Lib.hid ((hx1.out.fr hf1).cells)
    have hfl1 := Lib.hid (flat2_length xs)
    have hs1 := hf1.size
    go_wp2_with (at_builtin; refine wpList_append_lies _ rfl _ _ 28 (by rfl) w.heap.size 35 i0 _ 2 40 Tryz.underlying28 hi hz0 hz1 hz2 rfl (by decide) _ 0 _ (by rfl) hown1 ⟨ab, ao, none⟩ n ca (flat2 xs) (by rfl) (by rw [hfl1.out, ← hn1.out]) hxc.out (flat2_one ho1.out) hpos (by unfold maxLen; omega) (by omega) (by omega) w1.heap.size rfl ?_; intro g2 cap2 w2 hown2 hgr2 hat2 hlt2)
    have hg2 : w.heap.size ≤ g2 := by
      have := (ownsRow_some hown2).2.1
      exact this
    have hf2 : Fr w w2 := hf1.grown hgr2 (fun k e => by simp [Value.ownBlock] at e; omega)
    replace hcA := hf2.keep hc1
    replace hcB := hf2.keep hc2
    rw [List.nil_append, Nat.zero_add] at hown2
    clear hgr2 hat2 hown1 hgrow1 hxc
    go_wp2_with fail
    rw [rounds_succ]
    have hyc2 : Hid (∀ j u, (flat2 ys)[j]? = some u → w2.cell? (bb.add j) = some u) := Lib.hid (fun j u hu => hf2.keep (hyc.out j u hu))
    have hs2 := hf2.size
    go_wp2_with (at_builtin; refine wpList_append_own _ rfl _ _ 28 (by rfl) w.heap.size 35 i0 _ 2 40 Tryz.underlying28 hi hz0 hz1 hz2 rfl (by decide) _ n _ (by rfl) hown2 bb m cb (flat2 ys) (by rfl) (by rw [hfl2.out, ← hm1.out]) hyc2.out (flat2_one ho2.out) (by unfold maxLen; omega) (by omega) hs2 ?_; intro v3 w3 hown3 hgr3 hv3)
    obtain ⟨g3, cap3, rfl⟩ := ownsRow_pos hown3 (by omega)
    rw [← flat2_append] at hown3
    obtain ⟨hp3, -, -, hg3, hcap3, -⟩ := ownsRow_prs hown3
    have hf3 : Fr w w3 := hf2.grown hgr3 (fun k e => by simp [Value.ownBlock] at e; omega)
    have hfin := Lib.hid (show PrsRet w (xs ++ ys) (.returned (.slice (some ⟨g3, 0, none⟩) ((n + m : Nat) : Nat) cap3)) w3 from ⟨g3, cap3, by rw [hlen1.out], hp3, hg3, by rw [hlen1.out]; exact hcap3, hf3⟩)
    clear hv3 hgr3 hown3 hown2
    go_wp2_with fail
    rw [rounds_succ]
    go_wp2_with fail
    go_ret
    exact hfin.out
end Go.Proofs.YtphjfalibnnohaaGreatDoor
