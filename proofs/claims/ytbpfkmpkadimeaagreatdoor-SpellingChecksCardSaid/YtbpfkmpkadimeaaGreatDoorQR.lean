/-
  Contracts and laws for the statements of the law 43 of the seat, QR.
-/
import Derived.Test.YtbpfkmpkadimeaaGreatDoorRows
import Derived.Test.YtbpfkmpkadimeaaGreatDoorQD
import Derived.ProofKit
import Derived.LaidMore
import Derived.OpenShut
import Derived.MakeChecks
import Derived.Stop.Joined
import Derived.Lib.LaidTab
import Derived.Deep.SlicePairs

/- What the rows of this seat share: the table laid, arguments opened. -/
namespace Go.Proofs.YtbpfkmpkadimeaaGreatDoor
set_option maxRecDepth 100000
open Go.ChangeShapes Go.WideShapes Go.ChangeAt Go.RowKit

theorem seatOwn : ownKnob Tryz.prog.godebug = none := by kernel_rfl
theorem seatOut : laidOutB Tryz.prog = true := by kernel_rfl
/-- what the rows of this seat list -/
def LL : List (String × DataW Unit) := Rows.spellingChecksRow.laid
theorem door_met (os : Os) (args : Array Value) : laidMetH Tryz.prog LL ((World.doorLaid Tryz.prog 62 os).forCall (fun _ _ => 0) ⟨#[], args, []⟩).memory :=
  laidMetH_of_parts3 (fuel := 8) (laidMet_of_run' 8 (by kernel_rfl) (by kernel_rfl)) (by kernel_rfl) (by kernel_rfl)
theorem tPow : (Tryz.prog.globals[2]?).map (·.type) = some 384 := by kernel_rfl
theorem cPow : Tryz.prog.cellsOf 384 = 20 := by kernel_rfl
theorem cU64 : Tryz.prog.cellsOf 183 = 1 := by kernel_rfl
/-- what the row's condition gives the walks: the table of powers of ten -/
theorem G_of_laid {W : World} (h : laidMetH Tryz.prog LL W) : G W := by
  rw [MakeChecks.laidMetH_plain _ _ _ (by kernel_rfl)] at h
  obtain ⟨ps, ⟨g0, t0, cs0, f0, p0, q0, hg0, ht0, hv0, hd0, ⟨g1, t1, cs1, f1, p1, q1, hg1, ht1, hv1, hd1, ⟨g2, t2, cs2, f2, p2, q2, hg2, ht2, hv2, hd2, _, _⟩, _⟩, _⟩, _, _⟩ := h
  obtain rfl := Option.some.inj (gnum.symm.trans hg2)
  obtain rfl := Option.some.inj (tPow.symm.trans ht2)
  unfold G Lib.TabIs
  rw [hv2, ← Lib.cells_of_tab (k := .u64) (zs := Lib.pow10Tab) Tryz.underlying384 Tryz.underlying183 cU64 cPow hd2]

theorem cI8 : Tryz.prog.cellsOf 22 = 1 := by kernel_rfl
theorem cU8 : Tryz.prog.cellsOf 5 = 1 := by kernel_rfl
theorem cB : Tryz.prog.cellsOf 4 = 1 := by kernel_rfl
theorem cI82 : Tryz.prog.cellsOf 23 = 2 := by kernel_rfl
theorem cI872 : Tryz.prog.cellsOf 24 = 14 := by kernel_rfl
theorem cPlan : Tryz.prog.cellsOf 26 = 17 := by kernel_rfl
theorem fits8_wf {n : Int} (h : (Lit.int .i8 n).wf = true) : fits8 n := by
  have := h
  simp [Lit.wf, IntKind.min, IntKind.max, IntKind.signed, IntKind.bits] at this
  unfold fits8
  omega
theorem u8_wf {n : Int} (h : (Lit.int .u8 n).wf = true) : 0 ≤ n ∧ n ≤ 255 := by
  have := h
  simp [Lit.wf, IntKind.min, IntKind.max, IntKind.signed, IntKind.bits] at this
  omega
theorem list2 {α : Type} (l : List α) (h : l.length = 2) : ∃ a b, l = [a, b] := by
  match l, h with
  | [a, b], _ => exact ⟨a, b, rfl⟩
theorem list4 {α : Type} (l : List α) (h : l.length = 4) : ∃ a b c d, l = [a, b, c, d] := by
  match l, h with
  | [a, b, c, d], _ => exact ⟨a, b, c, d, rfl⟩
theorem list17 {α : Type} (l : List α) (h : l.length = 17) : ∃ c0 c1 c2 c3 c4 c5 c6 c7 c8 c9 c10 c11 c12 c13 c14 c15 c16, l = [c0, c1, c2, c3, c4, c5, c6, c7, c8, c9, c10, c11, c12, c13, c14, c15, c16] := by
  match l, h with
  | [c0, c1, c2, c3, c4, c5, c6, c7, c8, c9, c10, c11, c12, c13, c14, c15, c16], _ => exact ⟨c0, c1, c2, c3, c4, c5, c6, c7, c8, c9, c10, c11, c12, c13, c14, c15, c16, rfl⟩
section
variable {H : Type} {enc : TypeId × Value → H} {w : World} {base : Nat} {spare : Nat → Bool} {held : Bool}
/-- two numbers of eight bits -/
theorem open_two {fuel : Nat} {a b : Value} {x : DataW H × List MemPlace} (h : DataW.trod enc Tryz.prog w base spare held fuel 23 [a, b] = some x) : ∃ m n, a = .int .i8 m ∧ b = .int .i8 n ∧ fits8 m ∧ fits8 n := by
  obtain ⟨xs, m, -, -, -, hn, hi⟩ := DataW.trod_array Tryz.underlying23 h
  have h0 := hi 0 (by decide)
  have h1 := hi 1 (by decide)
  rw [cI8] at h0 h1
  obtain ⟨y0, y1, rfl⟩ := list2 xs hn
  obtain ⟨z0, e0, -, w0⟩ := DataW.trod_int Tryz.underlying22 (show _ = some y0 from h0)
  obtain ⟨z1, e1, -, w1⟩ := DataW.trod_int Tryz.underlying22 (show _ = some y1 from h1)
  simp at e0 e1
  exact ⟨z0, z1, e0, e1, fits8_wf w0, fits8_wf w1⟩
/-- a plan: a bool, two bytes, seven pairs -/
theorem open_plan {fuel : Nat} {l : List Value} {x : DataW H × List MemPlace} (h : DataW.trod enc Tryz.prog w base spare held fuel 26 l = some x) :
    ∃ (two : Bool) (nn na r0 r1 r2 r3 r4 r5 r6 r7 r8 r9 r10 r11 r12 r13 : Int), l = [.bool two, .int .u8 nn, .int .u8 na, .int .i8 r0, .int .i8 r1, .int .i8 r2, .int .i8 r3, .int .i8 r4, .int .i8 r5, .int .i8 r6, .int .i8 r7, .int .i8 r8, .int .i8 r9, .int .i8 r10, .int .i8 r11, .int .i8 r12, .int .i8 r13] ∧ (0 ≤ nn ∧ nn ≤ 255) ∧ (0 ≤ na ∧ na ≤ 255) ∧ ∀ x, x ∈ [r0, r1, r2, r3, r4, r5, r6, r7, r8, r9, r10, r11, r12, r13] → fits8 x := by
  obtain ⟨xs, m, -, -, hl, hn, hi⟩ := DataW.trod_struct Tryz.underlying26 h
  rw [cPlan] at hl
  obtain ⟨c0, c1, c2, c3, c4, c5, c6, c7, c8, c9, c10, c11, c12, c13, c14, c15, c16, rfl⟩ := list17 l hl
  obtain ⟨y0, y1, y2, y3, rfl⟩ := list4 xs hn
  have h0 : DataW.trod enc Tryz.prog w base spare held m 4 (([c0, c1, c2, c3, c4, c5, c6, c7, c8, c9, c10, c11, c12, c13, c14, c15, c16].drop 0).take (Tryz.prog.cellsOf 4)) = some y0 := hi 0 _ rfl
  have h1 : DataW.trod enc Tryz.prog w base spare held m 5 (([c0, c1, c2, c3, c4, c5, c6, c7, c8, c9, c10, c11, c12, c13, c14, c15, c16].drop 1).take (Tryz.prog.cellsOf 5)) = some y1 := hi 1 _ rfl
  have h2 : DataW.trod enc Tryz.prog w base spare held m 5 (([c0, c1, c2, c3, c4, c5, c6, c7, c8, c9, c10, c11, c12, c13, c14, c15, c16].drop 2).take (Tryz.prog.cellsOf 5)) = some y2 := hi 2 _ rfl
  have h3 : DataW.trod enc Tryz.prog w base spare held m 24 (([c0, c1, c2, c3, c4, c5, c6, c7, c8, c9, c10, c11, c12, c13, c14, c15, c16].drop 3).take (Tryz.prog.cellsOf 24)) = some y3 := hi 3 _ rfl
  rw [cB] at h0
  rw [cU8] at h1 h2
  rw [cI872] at h3
  obtain ⟨two, e0, -⟩ := DataW.trod_bool Tryz.underlying4 (show _ = some y0 from h0)
  obtain ⟨nn, e1, -, w1⟩ := DataW.trod_int Tryz.underlying5 (show _ = some y1 from h1)
  obtain ⟨na, e2, -, w2⟩ := DataW.trod_int Tryz.underlying5 (show _ = some y2 from h2)
  have h3 : DataW.trod enc Tryz.prog w base spare held m 24 [c3, c4, c5, c6, c7, c8, c9, c10, c11, c12, c13, c14, c15, c16] = some y3 := h3
  obtain ⟨ys, m2, -, -, -, hn2, hj⟩ := DataW.trod_array Tryz.underlying24 h3
  have key : ∀ i, i < 7 → ∃ y, DataW.trod enc Tryz.prog w base spare held m2 23 (([c3, c4, c5, c6, c7, c8, c9, c10, c11, c12, c13, c14, c15, c16].drop (i * 2)).take 2) = some y := fun i hi7 => by
    have := hj i hi7
    rw [cI82, List.getElem?_eq_getElem (by omega)] at this
    exact ⟨_, this⟩
  clear hi hj h h0 h1 h2 h3
  obtain ⟨z0, k0⟩ := key 0 (by decide)
  obtain ⟨r0, r1, rfl, rfl, f0, f1⟩ := open_two (a := c3) (b := c4) k0
  obtain ⟨z1, k1⟩ := key 1 (by decide)
  obtain ⟨r2, r3, rfl, rfl, f2, f3⟩ := open_two (a := c5) (b := c6) k1
  obtain ⟨z2, k2⟩ := key 2 (by decide)
  obtain ⟨r4, r5, rfl, rfl, f4, f5⟩ := open_two (a := c7) (b := c8) k2
  obtain ⟨z3, k3⟩ := key 3 (by decide)
  obtain ⟨r6, r7, rfl, rfl, f6, f7⟩ := open_two (a := c9) (b := c10) k3
  obtain ⟨z4, k4⟩ := key 4 (by decide)
  obtain ⟨r8, r9, rfl, rfl, f8, f9⟩ := open_two (a := c11) (b := c12) k4
  obtain ⟨z5, k5⟩ := key 5 (by decide)
  obtain ⟨r10, r11, rfl, rfl, f10, f11⟩ := open_two (a := c13) (b := c14) k5
  obtain ⟨z6, k6⟩ := key 6 (by decide)
  obtain ⟨r12, r13, rfl, rfl, f12, f13⟩ := open_two (a := c15) (b := c16) k6
  simp at e0 e1 e2
  subst e0 e1 e2
  refine ⟨two, nn, na, r0, r1, r2, r3, r4, r5, r6, r7, r8, r9, r10, r11, r12, r13, rfl, u8_wf w1, u8_wf w2, ?_⟩
  simp only [List.mem_cons, List.not_mem_nil, or_false, forall_eq_or_imp, forall_eq]
  exact ⟨f0, f1, f2, f3, f4, f5, f6, f7, f8, f9, f10, f11, f12, f13⟩
theorem size_two : Tryz.prog.cellsOf 23 = 2 := cI82
end
theorem readPlan : Tryz.prog.readableRec 26 = true := by kernel_rfl
theorem readTwo : Tryz.prog.readableRec 23 = true := by kernel_rfl
theorem readU8 : Tryz.prog.readableRec 5 = true := by kernel_rfl
theorem typesB : 26 < Tryz.prog.types.size ∧ 23 < Tryz.prog.types.size ∧ 5 < Tryz.prog.types.size := of_decide_eq_true (by kernel_rfl)

theorem cInt : Tryz.prog.cellsOf 3 = 1 := by kernel_rfl
theorem cRow : Tryz.prog.cellsOf 44 = 1 := by kernel_rfl
theorem cSpell : Tryz.prog.cellsOf 50 = 2 := by kernel_rfl
section
variable {H : Type} {enc : TypeId × Value → H} {w : World} {base : Nat} {spare : Nat → Bool} {held : Bool}
/-- a row of ints that came in -/
theorem open_row {fuel : Nat} {cs : List Value} {x : DataW H × List MemPlace} (h : DataW.trod enc Tryz.prog w base spare held fuel 44 cs = some x) :
    ∃ (a : Option Addr) (xs : List Int) (cap : Nat), cs = [.slice a xs.length cap] ∧ El w iv a xs ∧ (∀ n, n ∈ xs → -9223372036854775808 ≤ n ∧ n ≤ 9223372036854775807) := by
  rcases open_ints Tryz.underlying44 Tryz.underlying3 cInt h with ⟨rfl, -⟩ | ⟨a, len, cap, zs, rfl, -, hl, -, hz, -, hc, hw⟩
  · exact ⟨none, [], 0, rfl, .inl rfl, fun n hn => by simp at hn⟩
  · have hlz : len ≤ zs.length := by rw [hz]; split <;> omega
    have hlen : (zs.take len).length = len := by rw [List.length_take]; omega
    refine ⟨some a, zs.take len, cap, by rw [hlen], ?_, fun n hn => ?_⟩
    · by_cases h0 : len = 0
      · exact .inl (by rw [h0, List.take_zero])
      · have h1 := hc 0 (by omega)
        obtain ⟨b, o, s⟩ := a
        have hs : s = none := by
          cases s with
          | none => rfl
          | some s =>
            rw [show (⟨b, o, some s⟩ : Addr).add 0 = ⟨b, o, some s⟩ from rfl] at h1
            unfold World.cell? at h1
            split at h1
            · simp at h1
            · simp at h1
        subst hs
        refine .inr ⟨b, o, rfl, World.block_lt_of_cell? w _ h1, fun i y hy => ?_⟩
        have hi : i < (zs.take len).length := (List.getElem?_eq_some_iff.1 hy).1
        rw [hlen] at hi
        have h2 := hc i (by omega)
        rw [List.getElem?_take, if_pos hi] at hy
        rw [List.getD_eq_getElem?_getD, hy] at h2
        have e : (⟨b, o, none⟩ : Addr).add i = ⟨b, o + i, none⟩ := by
          unfold Addr.add
          split
          · rename_i h; subst h; rfl
          · rfl
        rw [e] at h2
        exact h2
    · have h2 := hw n (List.mem_of_mem_take hn)
      simp [Lit.wf, IntKind.min, IntKind.max, IntKind.signed, IntKind.bits] at h2
      omega
/-- a spelling that came in -/
theorem open_spell {fuel : Nat} {l : List Value} {x : DataW H × List MemPlace} (h : DataW.trod enc Tryz.prog w base spare held fuel 50 l = some x) :
    ∃ (i : Int) (a : Option Addr) (xs : List Int) (cap : Nat), l = [.int .i64 i, .slice a xs.length cap] ∧ El w iv a xs := by
  obtain ⟨ys, m, -, -, hl, hn, hi⟩ := DataW.trod_struct Tryz.underlying50 h
  rw [cSpell] at hl
  obtain ⟨c0, c1, rfl⟩ := list2 l hl
  obtain ⟨y0, y1, rfl⟩ := list2 ys hn
  have h0 : DataW.trod enc Tryz.prog w base spare held m 3 (([c0, c1].drop 0).take (Tryz.prog.cellsOf 3)) = some y0 := hi 0 _ rfl
  have h1 : DataW.trod enc Tryz.prog w base spare held m 44 (([c0, c1].drop 1).take (Tryz.prog.cellsOf 44)) = some y1 := hi 1 _ rfl
  rw [cInt] at h0
  rw [cRow] at h1
  obtain ⟨i, e0, -⟩ := DataW.trod_int Tryz.underlying3 (show _ = some y0 from h0)
  obtain ⟨a, xs, cap, e1, hel, -⟩ := open_row (show _ = some y1 from h1)
  simp at e0 e1
  subst e0 e1
  exact ⟨i, a, xs, cap, rfl, hel⟩
end
theorem readSpell : Tryz.prog.readableRec 50 = true := by kernel_rfl
theorem readRow : Tryz.prog.readableRec 44 = true := by kernel_rfl
theorem readInt : Tryz.prog.readableRec 3 = true := by kernel_rfl
theorem typesS : 50 < Tryz.prog.types.size ∧ 44 < Tryz.prog.types.size ∧ 3 < Tryz.prog.types.size := of_decide_eq_true (by kernel_rfl)
end Go.Proofs.YtbpfkmpkadimeaaGreatDoor

/- A notation that came in: opened. -/
namespace Go.Proofs.YtbpfkmpkadimeaaGreatDoor
set_option maxRecDepth 100000
open Go.ChangeShapes Go.WideShapes Go.ChangeAt Go.RowKit

instance : Inhabited Sy := ⟨⟨ByteArray.empty, [], none, 0⟩⟩
theorem cSyms : Tryz.prog.cellsOf 29 = 1 := by kernel_rfl
theorem cSym : Tryz.prog.cellsOf 46 = 2 := by kernel_rfl
theorem cStr : Tryz.prog.cellsOf 9 = 1 := by kernel_rfl
theorem cNot : Tryz.prog.cellsOf 31 = 2 := by kernel_rfl
theorem add_plainA (b o i : Nat) : (⟨b, o, none⟩ : Addr).add i = ⟨b, o + i, none⟩ := by
  unfold Addr.add
  split
  · rename_i h; subst h; rfl
  · rfl
section
variable {H : Type} {enc : TypeId × Value → H} {w : World} {base : Nat} {spare : Nat → Bool} {held : Bool}
/-- symbols that came in -/
theorem open_syms {fuel : Nat} {cs : List Value} {x : DataW H × List MemPlace} (h : DataW.trod enc Tryz.prog w base spare held fuel 29 cs = some x) :
    ∃ (a : Option Addr) (xs : List Sy) (cap : Nat), cs = [.slice a xs.length cap] ∧ Syms w a xs ∧ (a = none → cap = 0 ∧ xs = []) ∧ xs.length ≤ maxLen := by
  rcases Go.Deep.open_slice_pairs Tryz.underlying29 Tryz.underlying46 cSym rfl rfl cStr cRow h with ⟨rfl, -⟩ | ⟨a, len, cap, m, n, V0, V1, D0, D1, P0, P1, rfl, -, hl, hm, hmm, -, hc⟩
  · exact ⟨none, [], 0, rfl, ⟨.inl rfl, fun y hy => by simp at hy⟩, fun _ => ⟨rfl, rfl⟩, Nat.zero_le _⟩
  · have hlm : len ≤ m := by rw [hmm]; split <;> omega
    have each : ∀ i, i < len → ∃ s : Sy, w.cell? (a.add (i * 2)) = some (.string s.nm) ∧ w.cell? (a.add (i * 2 + 1)) = some (.slice s.ra s.row.length s.rc) ∧ El w iv s.ra s.row := by
      intro i hi
      obtain ⟨h0, h1, t0, t1⟩ := hc i (by omega)
      obtain ⟨s, e0, -⟩ := DataW.trod_string Tryz.underlying9 t0
      obtain ⟨ra, rs, rc, e1, hel, -⟩ := open_row t1
      simp at e0 e1
      exact ⟨⟨s, rs, ra, rc⟩, by rw [h0, e0], by rw [h1, e1], hel⟩
    obtain ⟨q, hq⟩ := Go.Deep.choose_lt each
    refine ⟨some a, (List.range len).map q, cap, by rw [List.length_map, List.length_range], ⟨?_, fun y hy => ?_⟩, (fun e => by cases e), by rw [List.length_map, List.length_range]; omega⟩
    · by_cases h0 : len = 0
      · subst h0; exact .inl rfl
      · have h1 := (hq 0 (by omega)).1
        obtain ⟨b, o, s⟩ := a
        have hs : s = none := by
          cases s with
          | none => rfl
          | some s =>
            rw [show (⟨b, o, some s⟩ : Addr).add (0 * 2) = ⟨b, o, some s⟩ from rfl] at h1
            unfold World.cell? at h1
            split at h1
            · simp at h1
            · simp at h1
        subst hs
        refine .inr ⟨b, o, rfl, World.block_lt_of_cell? w _ h1, fun i y hy => ?_⟩
        obtain ⟨z, hz, rfl⟩ : ∃ z, ((List.range len).map q)[i]? = some z ∧ z.enc = y := by
          rw [List.getElem?_map] at hy
          cases hz : ((List.range len).map q)[i]? with
          | none => rw [hz] at hy; cases hy
          | some z => rw [hz] at hy; injection hy with hy; exact ⟨z, rfl, hy⟩
        have hi : i < len := by
          have := (List.getElem?_eq_some_iff.1 hz).1
          rw [List.length_map, List.length_range] at this
          exact this
        rw [List.getElem?_map, List.getElem?_range hi] at hz
        injection hz with hz
        subst hz
        obtain ⟨e0, e1, -⟩ := hq i hi
        rw [add_plainA] at e0 e1
        exact ⟨e0, by rw [show o + i * 2 + 1 = o + (i * 2 + 1) by omega]; exact e1⟩
    · obtain ⟨i, hi, rfl⟩ := List.mem_map.1 hy
      exact (hq i (List.mem_range.1 hi)).2.2
/-- a notation that came in -/
theorem open_not {fuel : Nat} {l : List Value} {x : DataW H × List MemPlace} (h : DataW.trod enc Tryz.prog w base spare held fuel 31 l = some x) :
    ∃ (aN aA : Option Addr) (N A : List Sy) (cN cA : Nat), l = [.slice aN N.length cN, .slice aA A.length cA] ∧ NotIs w aN aA cA N A ∧ (aN = none → cN = 0) ∧ N.length ≤ maxLen ∧ A.length ≤ maxLen := by
  obtain ⟨ys, m, -, -, hl, hn, hi⟩ := DataW.trod_struct Tryz.underlying31 h
  rw [cNot] at hl
  obtain ⟨c0, c1, rfl⟩ := list2 l hl
  obtain ⟨y0, y1, rfl⟩ := list2 ys hn
  have h0 : DataW.trod enc Tryz.prog w base spare held m 29 (([c0, c1].drop 0).take (Tryz.prog.cellsOf 29)) = some y0 := hi 0 _ rfl
  have h1 : DataW.trod enc Tryz.prog w base spare held m 29 (([c0, c1].drop 1).take (Tryz.prog.cellsOf 29)) = some y1 := hi 1 _ rfl
  rw [cSyms] at h0 h1
  obtain ⟨aN, N, cN, e0, hN, hnN, hlN⟩ := open_syms (show _ = some y0 from h0)
  obtain ⟨aA, A, cA, e1, hA, hnil, hlA⟩ := open_syms (show _ = some y1 from h1)
  simp at e0 e1
  subst e0 e1
  exact ⟨aN, aA, N, A, cN, cA, rfl, ⟨hN, hA, hnil⟩, (fun e => (hnN e).1), hlN, hlA⟩
end
theorem readNot : Tryz.prog.readableRec 31 = true := by kernel_rfl
theorem typesN : 31 < Tryz.prog.types.size := of_decide_eq_true (by kernel_rfl)
end Go.Proofs.YtbpfkmpkadimeaaGreatDoor
