/- spelling.box: what its iterator yields. -/
import Derived.Test.YtphjfalibnnohaaGreatDoorRange
import Derived.Test.YtphjfalibnnohaaGreatDoorOrd
import Derived.Test.YtphjfalibnnohaaGreatDoorClone
import Derived.Sort.LoopGhostIn
import Derived.Sort.QuietIn
namespace Go.Proofs.YtphjfalibnnohaaGreatDoor
open Go.RowKit Go.Lib Go.Shelf
attribute [local go_sem] Oper.semAt_some

/-- what is yielded: the nominal's index, the counts, where these lie -/
structure BX where
  i : Nat
  cs : List Int
  g : Nat
  c : Nat
def BX.enc (x : BX) : Value := .agg #[.int .i64 x.i, .slice (some ⟨x.g, 0, none⟩) x.cs.length x.c]
def stripX (x : BX) : Nat × List Int := (x.i, x.cs)
/-- a row of ints in a block of its own -/
def RowAt (W : World) (x : BX) : Prop := (∃ cur, W.heap[x.g]? = some (.cells cur 3 (0, 0))) ∧ El W iv (some ⟨x.g, 0, none⟩) x.cs
theorem El.fx {α : Type} {w w' : World} {enc : α → Value} {b o : Nat} {xs : List α} {p : Nat → Prop} (h : El w enc (some ⟨b, o, none⟩) xs) (k : Fx p w w') (hp : ¬ p b) : El w' enc (some ⟨b, o, none⟩) xs := by
  rcases h with h | ⟨b', o', ha, hb, hc⟩
  · exact .inl h
  · injection ha with ha; injection ha with h1 h2
    subst h1; subst h2
    exact .inr ⟨b, o, rfl, Nat.lt_of_lt_of_le hb k.size, fun i x hx => by rw [k.cell hb hp]; exact hc i x hx⟩
theorem RowAt.lt {W : World} {x : BX} (h : RowAt W x) : x.g < W.heap.size := by
  obtain ⟨⟨cur, h⟩, _⟩ := h
  exact (Array.getElem?_eq_some_iff.1 h).1
theorem RowAt.fx {W W' : World} {x : BX} {p : Nat → Prop} (h : RowAt W x) (k : Fx p W W') (hp : ¬ p x.g) : RowAt W' x := by
  refine ⟨?_, h.2.fx k hp⟩
  obtain ⟨cur, hc⟩ := h.1
  exact ⟨cur, (k.block _ h.lt hp).trans hc⟩
theorem RowAt.fr {W W' : World} {x : BX} (h : RowAt W x) (k : Fr W W') : RowAt W' x := h.fx (p := fun _ => False) (Fx.of_fr k) (fun e => e)
theorem RowAt.ne {W : World} {x : BX} (h : RowAt W x) {base : Nat} {size n : Nat} {v : Value} {xs : List Value} (ho : W.ownsRow base 42 size v n xs) : v.ownBlock ≠ some x.g := by
  intro e
  rcases ho.2 with ⟨rfl, _⟩ | ⟨g', cap, cur, rfl, _, hh, _⟩
  · simp [Value.ownBlock] at e
  · have e2 : g' = x.g := by simpa [Value.ownBlock] using e
    subst e2
    obtain ⟨c, hc⟩ := h.1
    rw [hh] at hc
    injection hc with hc
    injection hc with _ ht
    exact absurd ht (by decide)
def freshX (m n N : Nat) (n₀ : Nat) (p : Nat → Prop) (pre : List BX) (x : BX) (W : World) : Prop := pre.length < (boxL m n N).length ∧ stripX x ∈ boxL m n N ∧ n₀ ≤ x.g ∧ ¬ p x.g ∧ RowAt W x
theorem ownsRow_blk {W : World} {base : Nat} {e : TypeId} {size n m cap g : Nat} {xs : List Value} (h : W.ownsRow base e size (.slice (some ⟨g, 0, none⟩) n cap) m xs) : ∃ cur, W.heap[g]? = some (.cells cur e (0, 0)) := by
  rcases h.2 with ⟨h2, _⟩ | ⟨g', cap', cur, hv, _, hh, _⟩
  · cases h2
  · injection hv with hv
    injection hv with hv; injection hv with hv
    subst hv
    exact ⟨cur, hh⟩
theorem box_lt {m k N i : Nat} (hi : i < N) {used : List (List Int)} {cs : List Int} {rst : List (List Int)} (hC : boxC m k = used ++ cs :: rst) {xs : List BX} (hx : xs.map stripX = boxL m k i ++ used.map fun cs => (i, cs)) : xs.length < (boxL m k N).length := by
  have h1 : xs.length = (boxL m k i).length + used.length := by rw [← List.length_map (f := stripX), hx, List.length_append, List.length_map]
  have h2 : (boxC m k).length = used.length + 1 + rst.length := by rw [hC, List.length_append, List.length_cons]; omega
  rw [boxC_size] at h2
  rw [boxL_size] at h1 ⊢
  have h3 : (i + 1) * (2 * m + 1) ^ k ≤ N * (2 * m + 1) ^ k := Nat.mul_le_mul_right _ hi
  rw [Nat.add_mul, Nat.one_mul] at h3
  omega
/-- the cells of the iterator's own row -/
def Cnt (W : World) (cb : Nat) (L : List Value) : Prop := cb < W.heap.size ∧ ∀ (j : Nat) (u : Value), L[j]? = some u → W.cell? ⟨cb, j, none⟩ = some u ∧ W.frozen? ⟨cb, j, none⟩ = false
theorem Cnt.fx {p : Nat → Prop} {W W' : World} {cb : Nat} {L : List Value} (h : Cnt W cb L) (k : Fx p W W') (hp : ¬ p cb) : Cnt W' cb L :=
  ⟨Nat.lt_of_lt_of_le h.1 k.size, fun j y hy => by rw [k.cell h.1 hp, k.frozen h.1 hp]; exact h.2 j y hy⟩
theorem Cnt.set {W : World} {cb : Nat} {L : List Value} (h : Cnt W cb L) (i : Nat) (hi : i < L.length) (u : Value) : Cnt (W.setCell ⟨cb, i, none⟩ u) cb (L.set i u) := by
  refine ⟨by simp [World.setCell]; exact h.1, fun j y hy => ?_⟩
  rw [World.frozen?_setCell]
  by_cases e : i = j
  · subst e
    rw [List.getElem?_set_self hi] at hy
    injection hy with hy
    subst hy
    have := h.2 i _ (List.getElem?_eq_getElem hi)
    exact ⟨World.cell?_setCell_same' _ _ _ (by rw [this.1]; rfl), this.2⟩
  · rw [List.getElem?_set_ne e] at hy
    have := h.2 j y hy
    exact ⟨by rw [World.cell?_setCell_other _ _ _ _ (by intro e2; injection e2 with _ e2; exact e e2)]; exact this.1, this.2⟩

theorem odo_set (j : Nat) (a x y : Int) (t : List Int) : ((List.replicate j a ++ x :: t).map iv).set j (iv y) = (List.replicate j a ++ y :: t).map iv := by
  rw [List.map_append, List.set_append_right _ _ (by simp)]; simp
theorem rep_snoc (j : Nat) (a : Int) (t : List Int) : List.replicate (j + 1) a ++ t = List.replicate j a ++ a :: t := by
  rw [List.replicate_succ', List.append_assoc]; rfl
theorem take_set_succ {α : Type} {L : List α} {k : Nat} {v : α} (h : k < L.length) : (L.set k v).take (k + 1) = L.take k ++ [v] := by
  rw [List.take_add_one, List.getElem?_set_self h, List.take_set_of_le (Nat.le_refl _)]; rfl

theorem wpListIn_make_full {F : Fence} {rm : Nat} {P : Program} (w : World) {ops : Array Oper} {rest : List Oper} {o : Oper} {a : Act} {Q : Exit → Act → World → Prop}
    (hg : o.guard = none) (l c : Operand) (t : TypeId) (hop : o.op = Op.makeSlice t l c)
    (base : Nat) (e : TypeId) (i : TypeInfo) (z : Value) (size : Nat) (h1 : P.underlying t = some (.slice e)) (h2 : P.info? e = some i) (h3 : i.zero = some z) (h4 : i.size = size)
    (kl kc : IntKind) (L C : Int) (n : Nat) (hl : a.eval l = .int kl L) (hc : a.eval c = .int kc C) (hL : L = (n : Int)) (hC : C = (n : Int)) (b2 : i.bytes * n ≤ 281474976710656) (b3 : n ≤ maxLen) (b4 : base ≤ w.heap.size)
    (hK : ∀ w', w'.ownsRow base e size (.slice (some ⟨w.heap.size, 0, none⟩) n n) n (madeCells z.cells (n * size)).toList → w.grownBy w' none → wpListIn F rm P ops Q rest (a.put o.dst (.slice (some ⟨w.heap.size, 0, none⟩) n n)) w') :
    wpListIn F rm P ops Q (o :: rest) a w := by
  refine wpListIn_plain hg fun K hK' => ?_
  obtain ⟨w', hrun, r1, r2⟩ := run_make_full (P := P) w base t e i z size h1 h2 h3 h4 kl kc n b2 b3 b4
  subst hL
  subst hC
  unfold Oper.wpIn
  refine ⟨?_, ?_⟩
  · simp [Oper.about, hop]
  · rw [Oper.semAt_plain F _ _ (by rw [hop]; intro c hc'; cases hc')]
    simp [execOp, hop, hl, hc, hrun, Result.andThen]
    exact hK' _ _ (hK w' r1 r2)

set_option maxRecDepth 100000 in
set_option maxHeartbeats 4000000 in
theorem box_seq (Bn Bm N n m : Nat) (aN aA : Option Addr) (cN cA : Nat) (w0 : World) (hN : N ≤ 1000) (hn : n ≤ 1000) (hm : m ≤ 1000000) (hBn : Bn < w0.heap.size) (hBm : Bm < w0.heap.size)
    (h1 : w0.cell? ⟨Bn, 0, none⟩ = some (.slice aN N cN)) (h2 : w0.cell? ⟨Bn, 1, none⟩ = some (.slice aA n cA)) (h3 : w0.cell? ⟨Bm, 0, none⟩ = some (.int .i64 m)) (q : Nat → Prop) (hq9 : ∀ k, q k → k ≠ Bn ∧ k ≠ Bm) :
    SeqX Fence.wide 3 Tryz.prog 100 #[.pointer (some ⟨Bn, 0, none⟩), .pointer (some ⟨Bm, 0, none⟩)] (fun x => #[BX.enc x]) (freshX m n N) (fun xs => xs.map stripX = boxL m n N) w0 q := by
  intro l J W hfr hJ hY h0
  refine callsIn_of_wp Tryz.func100 rfl trivial ?_ rfl
  simp only [Tryz.ntmps100, List.size_toArray, List.length_cons, List.length_nil, Nat.reduceAdd, Nat.reduceSub, Array.replicate_succ, Array.replicate_zero, List.push_toArray, List.append_toArray, List.nil_append, List.cons_append]
  have e1 := hfr.keep h1
  have e2 := hfr.keep h2
  have e3 := hfr.keep h3
  replace h1 := Lib.hid h1
  replace h2 := Lib.hid h2
  replace h3 := Lib.hid h3
  replace hY := Lib.hid hY
  replace hq9 := Lib.hid hq9
  obtain ⟨i0, hinf, hz0, hz1, hz2⟩ := info_parts infoInt
  gi_wp2
  gi_loopg [11] N (fun k s11 wr => ∃ (i : Nat) (p : Nat → Prop) (xs : List BX), s11 = .int .i64 i ∧ i + k = N ∧ J p xs wr ∧ (∀ k, p k → W.heap.size ≤ k ∧ k < wr.heap.size) ∧ Hid (xs.map stripX = boxL m n i) ∧ Fx (fun k => k ≠ Bn ∧ k ≠ Bm) W wr)
  case atStart => exact ⟨0, fun _ => False, [], rfl, by omega, h0, fun k e => e.elim, rfl, Fx.refl _ _⟩
  case round =>
    obtain ⟨i, p, xs, rfl, hik, hj, hp, hxs, hfx⟩ := hrel
    obtain ⟨wo, rfl⟩ : ∃ wo : World, wo = wr := ⟨_, rfl⟩
    obtain ⟨ko, rfl⟩ : ∃ ko : Nat, ko = gk := ⟨_, rfl⟩
    by_cases hi : i < N
    · have hd : decide (i < N) = true := decide_eq_true hi
      have c1 := hfx.keep e1 (fun e9 => e9.1 rfl)
      have c2 := hfx.keep e2 (fun e9 => e9.1 rfl)
      have c3 := hfx.keep e3 (fun e9 => e9.2 rfl)
      have hszw := hfx.size
      gi_wp2_with (gi_at_make; refine wpListIn_make_full _ rfl _ _ 33 rfl wo.heap.size 3 i0 _ 1 Tryz.underlying33 hinf hz0 hz1 _ _ _ _ n (by rfl) (by rfl) (by omega) (by omega) (by rw [hz2]; omega) (by unfold maxLen; omega) (Nat.le_refl _) ?_; intro w2 hown2 hgr2)
      obtain ⟨-, -, hcb, -, hcl⟩ := ownsRow_some hown2
      have hf2 : Fr wo w2 := (Fr.refl wo).grown hgr2 (fun k e => by cases e)
      obtain ⟨L0, hL0⟩ : ∃ L0, L0 = (madeCells (Value.cells (Value.int .i64 0)) (n * 1)).toList := ⟨_, rfl⟩
      have hlen0 : L0.length = n := by rw [hL0]; exact (ownsRow_whole hown2).2.2
      have hcnt : Cnt w2 wo.heap.size L0 := ⟨hcb, by rw [hL0]; exact hcl⟩
      have hj2 := hJ p (· = wo.heap.size) xs _ _ hj (Fx.of_fr hf2) (fun k e => .inr (by have e : k = wo.heap.size := e; omega))
      have hfx2 := hfx.fr hf2
      have hBnc : Bn < wo.heap.size := by have := hfr.size; omega
      have hBmc : Bm < wo.heap.size := by have := hfr.size; omega
      replace hL0 := Lib.hid hL0
      replace hlen0 := Lib.hid hlen0
      clear hown2 hcl c1 c2 c3 hd hj hp
      gi_wp2
      gi_loopg [20] n (fun m2 s20 wr2 => ∃ (k : Nat) (L : List Value), s20 = .int .i64 k ∧ k + m2 = n ∧ Cnt wr2 wo.heap.size L ∧ Hid (L.length = n) ∧ Hid (L.take k = List.replicate k (iv (-(m : Int)))) ∧ J (· = wo.heap.size) xs wr2 ∧ Fx (fun k => k ≠ Bn ∧ k ≠ Bm) W wr2)
      case atStart => exact ⟨0, L0, rfl, by omega, hcnt, hlen0, rfl, hj2, hfx2⟩
      case round =>
        clear hcnt hj2 hfx2 hf2 hgr2 hL0 hlen0
        obtain ⟨k, L, rfl, hkn, hcnt, hlen, htk, hj2, hfx2⟩ := hrel
        have c3 := hfx2.keep e3 (fun e9 => e9.2 rfl)
        by_cases hk : k < n
        · have hd : decide (k < n) = true := decide_eq_true hk
          have z1 : (k : Int) < (n : Int) := by omega
          have z2 : (0 : Int) ≤ (k : Int) := by omega
          obtain ⟨u, hu⟩ : ∃ u, L[k]? = some u := ⟨_, List.getElem?_eq_getElem (by rw [hlen.out]; exact hk)⟩
          obtain ⟨ck, fk⟩ := hcnt.2 k u hu
          replace hu := Lib.hid hu
          gi_wp2
          have hfc : Fx (· = wo.heap.size) wr (wr.setCell ⟨wo.heap.size, k, none⟩ (.int .i64 (-(m : Int)))) := Fx.setCell (p := (· = wo.heap.size)) (q := ⟨wo.heap.size, k, none⟩) (Fx.refl _ wr) (.inl rfl) _
          have hk2 : k < L.length := by rw [hlen.out]; exact hk
          gi_roundg (gk - 1)
          case measure => omega
          case rel =>
            refine ⟨k + 1, L.set k (iv (-(m : Int))), by go_num, by omega, hcnt.set k hk2 _, Lib.hid (by rw [List.length_set]; exact hlen.out), Lib.hid ?_, hJ _ _ _ _ _ hj2 hfc (fun k e => .inl e), hfx2.trans (hfc.mono fun k e => by have e : k = wo.heap.size := e; have := hfr.size; exact ⟨by omega, by omega⟩)⟩
            rw [take_set_succ hk2, htk.out, List.replicate_succ']
        · obtain rfl : k = n := by omega
          have hd : decide (k < k) = false := decide_eq_false hk
          obtain rfl : L = List.replicate k (iv (-(m : Int))) := by rw [← htk.out, List.take_of_length_le (by rw [hlen.out]; exact Nat.le_refl _)]
          clear hkn htk hlen
          obtain ⟨C, hC⟩ : ∃ C, C = boxC m k := ⟨_, rfl⟩
          have hrun := (isRun_box m k).1
          have hhead := (isRun_box m k).2
          have hlenC := boxC_len m k
          have hsizeC := boxC_mem m k
          rw [← hC] at hrun hhead hlenC hsizeC
          obtain ⟨rest, hrest⟩ : ∃ rest, C = List.replicate k (-(m : Int)) :: rest := by
            cases C with
            | nil => simp at hhead
            | cons x l => injection hhead with hhead; exact ⟨l, by rw [hhead]⟩
          replace hrun := Lib.hid hrun
          replace hrest := Lib.hid hrest
          replace hlenC := Lib.hid hlenC
          replace hsizeC := Lib.hid hsizeC
          replace hC := Lib.hid hC
          clear hhead
          have hcnt2 : Cnt wr wo.heap.size ((List.replicate k (-(m : Int))).map iv) := by rw [List.map_replicate]; exact hcnt
          clear hcnt
          gi_wp2
          gi_loopg [7] rest.length (fun q _ wr3 => ∃ (used : List (List Int)) (cs : List Int) (rst : List (List Int)) (xs3 : List BX), Hid (C = used ++ cs :: rst) ∧ rst.length = q ∧ Hid (IsRun m (cs :: rst)) ∧ Cnt wr3 wo.heap.size (cs.map iv) ∧ Hid (xs3.map stripX = boxL m k i ++ used.map (fun cs => (i, cs))) ∧ J (· = wo.heap.size) xs3 wr3 ∧ Fx (fun k => k ≠ Bn ∧ k ≠ Bm) W wr3)
          case atStart => exact ⟨[], List.replicate k (-(m : Int)), rest, xs, hrest, rfl, Lib.hid (by have h := hrun.out; rw [hrest.out] at h; exact h), hcnt2, Lib.hid (by rw [hxs.out]; simp), hj2, hfx2⟩
          case round =>
            clear hcnt2 hj2 hfx2 hrest hrun
            obtain ⟨used, cs, rst, xs3, hCe, hq, hrun, hcnt, hx3, hj3, hfx3⟩ := hrel
            have hmem : cs ∈ C := by rw [hCe.out]; simp
            have hcl := hlenC.out cs hmem
            have hcb := hsizeC.out cs hmem
            replace hmem := Lib.hid hmem
            replace hcb := Lib.hid hcb
            obtain ⟨cl, hcl9⟩ : ∃ cl, cl = cs.length := ⟨_, rfl⟩
            have hclone := Clone_row wo.heap.size 0 k cs wr (by omega) (fun j x hx => by rw [Nat.zero_add]; exact (hcnt.2 j _ (by rw [List.getElem?_map, hx]; rfl)).1)
            rw [hcl] at hclone
            replace hclone := Lib.hid hclone
            obtain ⟨w3, rfl⟩ : ∃ w3 : World, w3 = wr := ⟨_, rfl⟩
            obtain ⟨k3, rfl⟩ : ∃ k3 : Nat, k3 = gk := ⟨_, rfl⟩
            gi_wp2_with (refine ⟨trivial, ?_⟩; gi_at_call 46; refine (callsIn_wide.2 hclone.out).mono ?_; rintro e w4 ⟨g4, c4, rfl, hf4, hown4⟩; obtain ⟨-, hg4, hg5, -, hcells⟩ := ownsRow_some hown4; have hblk := ownsRow_blk hown4; have hj4 := hJ _ (· = wo.heap.size) _ _ _ hj3 (Fx.of_fr hf4) (fun k e => .inl e); obtain ⟨fn, tmps, assign, body, hy, hR⟩ := hY.out (· = wo.heap.size) xs3 ⟨i, cs, g4, c4⟩ w4 hj4 (fun k e => by have e : k = wo.heap.size := e; omega) ⟨box_lt hi (show boxC m k = used ++ cs :: rst by rw [← hC.out]; exact hCe.out) hx3.out, List.mem_flatMap.2 ⟨i, List.mem_range.2 hi, List.mem_map.2 ⟨cs, by rw [← hC.out]; exact hmem.out, rfl⟩⟩, Nat.le_trans hfx3.size hg4, fun e => by have e : g4 = wo.heap.size := e; have := hcnt.1; omega, hblk, .inr ⟨g4, 0, rfl, hg5, fun j x hx => by rw [Nat.zero_add]; exact (hcells j _ (by rw [List.getElem?_map, hx]; rfl)).1⟩⟩; simp only [BX.enc, hcl] at hy)
            refine hR.mono ?_
            rintro e w5 ⟨rfl, hj5, hk5⟩
            have hcnt5 := (hcnt.fx (p := fun _ => False) (Fx.of_fr hf4) (fun e => e)).fx hk5 (fun e => e.1 rfl)
            have hfx5 := (hfx3.fr hf4).trans (hk5.mono fun k e => hq9.out k e.2)
            obtain ⟨xs5, hxs5⟩ : ∃ xs5, xs5 = xs3 ++ [(⟨i, cs, g4, c4⟩ : BX)] := ⟨_, rfl⟩
            rw [← hxs5] at hj5
            have hx5 := Lib.hid (show xs5.map stripX = boxL m k i ++ (used ++ [cs]).map (fun cs => (i, cs)) by rw [hxs5, List.map_append, hx3.out]; simp [stripX])
            have hnx := Lib.hid (isRun_next hrun.out)
            have hrun2 := Lib.hid (isRun_tail hrun.out)
            clear hR hy hown4 hcells hj4 hf4 hk5 hg4 hg5 hcnt hj3 hfx3 hclone hxs5 hx3 hcl9
            gi_wp2
            gi_loopg [7] k (fun q s7 wr4 => ∃ j : Nat, s7 = .int .i64 j ∧ j + q = k ∧ Cnt wr4 wo.heap.size ((List.replicate j (-(m : Int)) ++ cs.drop j).map iv) ∧ Hid (rst.head? = (nextC m (cs.drop j)).map (fun t => List.replicate j (-(m : Int)) ++ t)) ∧ J (· = wo.heap.size) xs5 wr4 ∧ Fx (fun k => k ≠ Bn ∧ k ≠ Bm) W wr4)
            case atStart => exact ⟨0, rfl, by omega, by simpa using hcnt5, Lib.hid (by rw [← hnx.out]; simp), hj5, hfx5⟩
            case round =>
              clear hcnt5 hj5 hfx5 hnx
              obtain ⟨j, rfl, hjk, hcnt, hnx, hj5, hfx5⟩ := hrel
              have c3 := hfx5.keep e3 (fun e9 => e9.2 rfl)
              by_cases hjl : j < k
              · have hlt : j < cs.length := by omega
                obtain ⟨x, hx⟩ : ∃ x, x = cs[j] := ⟨_, rfl⟩
                have hdr : cs.drop j = x :: cs.drop (j + 1) := by rw [hx]; exact List.drop_eq_getElem_cons hlt
                obtain ⟨cj, fj⟩ := hcnt.2 j (iv x) (by rw [hdr, List.getElem?_map, List.getElem?_append_right (by simp)]; simp)
                have hxb := hcb.out x (by rw [hx]; exact List.getElem_mem hlt)
                have z1 : (j : Int) < (k : Int) := by omega
                have z2 : (0 : Int) ≤ (j : Int) := by omega
                replace hdr := Lib.hid hdr
                replace hx := Lib.hid hx
                by_cases hxm : x = (m : Int)
                · subst hxm
                  gi_wp2
                  gi_quiet (fail)
                  gi_wp2
                  have hfq : Fr wr (wr.drewN nq) := (Fr.refl wr).drewN nq
                  have hfc : Fx (· = wo.heap.size) wr ((wr.drewN nq).setCell ⟨wo.heap.size, j, none⟩ (.int .i64 (-(m : Int)))) := Fx.setCell (p := (· = wo.heap.size)) (q := ⟨wo.heap.size, j, none⟩) (Fx.of_fr hfq) (.inl rfl) _
                  gi_roundg (gk - 1)
                  case measure => omega
                  case rel =>
                    refine ⟨j + 1, by go_num, by omega, ?_, Lib.hid ?_, hJ _ _ _ _ _ hj5 hfc (fun k e => .inl e), hfx5.trans (hfc.mono fun k e => by have e : k = wo.heap.size := e; have := hfr.size; exact ⟨by omega, by omega⟩)⟩
                    · have h := (hcnt.fx (p := fun _ => False) (Fx.of_fr hfq) (fun e => e)).set j (by simp; omega) (iv (-(m : Int)))
                      rw [hdr.out, odo_set, ← rep_snoc] at h
                      exact h
                    · rw [hnx.out, hdr.out, nextC, if_pos rfl, Option.map_map]
                      congr 1
                      funext t
                      exact (rep_snoc j _ t).symm
                · have hbx : (x == (m : Int)) = false := beq_false_of_ne hxm
                  have hjk2 : (j == k) = false := beq_false_of_ne (by omega)
                  gi_wp2
                  gi_quiet (fail)
                  gi_wp2
                  have hfq : Fr wr (wr.drewN nq) := (Fr.refl wr).drewN nq
                  have hfc : Fx (· = wo.heap.size) wr ((wr.drewN nq).setCell ⟨wo.heap.size, j, none⟩ (.int .i64 (x + 1))) := Fx.setCell (p := (· = wo.heap.size)) (q := ⟨wo.heap.size, j, none⟩) (Fx.of_fr hfq) (.inl rfl) _
                  have hnext : rst.head? = some (List.replicate j (-(m : Int)) ++ (x + 1) :: cs.drop (j + 1)) := by
                    rw [hnx.out, hdr.out, nextC, if_neg hxm]; rfl
                  have hC2 := hCe.out
                  have hr2 := hrun2.out
                  cases rst with
                  | nil => simp at hnext
                  | cons y rst2 =>
                    injection hnext with hnext
                    subst hnext
                    gi_roundg (rst2.length)
                    case measure => simp at hq; omega
                    case rel =>
                      refine ⟨used ++ [cs], _, rst2, xs5, Lib.hid (by rw [hC2]; simp), rfl, Lib.hid hr2, ?_, hx5, hJ _ _ _ _ _ hj5 hfc (fun k e => .inl e), hfx5.trans (hfc.mono fun k e => by have e : k = wo.heap.size := e; have := hfr.size; exact ⟨by omega, by omega⟩)⟩
                      have h := (hcnt.fx (p := fun _ => False) (Fx.of_fr hfq) (fun e => e)).set j (by simp; omega) (iv (x + 1))
                      rw [hdr.out, odo_set] at h
                      exact h
              · obtain rfl : j = k := by omega
                gi_wp2
                gi_quiet (fail)
                gi_wp2
                have hfq : Fr wr (wr.drewN nq) := (Fr.refl wr).drewN nq
                have hnone : rst = [] := by
                  have h := hnx.out
                  rw [List.drop_of_length_le (by omega), nextC] at h
                  cases rst with
                  | nil => rfl
                  | cons y l => simp at h
                have hC2 := hCe.out
                rw [hnone, hC.out] at hC2
                gi_roundg (ko - 1)
                case measure => omega
                case rel =>
                  exact ⟨i + 1, (· = wo.heap.size), xs5, by go_num, by omega, hJ _ _ _ _ _ hj5 (Fx.of_fr hfq) (fun k e => .inl e), fun k e => by have e : k = wo.heap.size := e; have := hcnt.1; have := hfq.size; omega, Lib.hid (by rw [boxL_succ, hC2]; exact hx5.out), hfx5.fr hfq⟩
    · obtain rfl : i = N := by omega
      have hd : decide (i < i) = false := decide_eq_false hi
      gi_wp2
      go_end0
      exact ⟨⟨_, rfl⟩, p, xs, hxs.out, hj⟩
end Go.Proofs.YtphjfalibnnohaaGreatDoor
