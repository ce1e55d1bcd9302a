/- slices.Repeat at one text, smith.unit. -/
import Derived.Test.YtphjfalibnnohaaGreatDoorKern
import Derived.Laws.CopyOwn
import Derived.Laws.MakeOwn
import Derived.OwnWalk
import Derived.Deep.RegionHeld3
namespace Go.Proofs.YtphjfalibnnohaaGreatDoor
open Go.RowKit Go.Lib
attribute [local go_sem ↓] Go.wp_at_zero Go.wp_at_succ

theorem size65 : (Tryz.prog.info? 65).map (·.size) = some 1 := by kernel_rfl

theorem Mul_one (n : Nat) (hn : n ≤ 1000000) (w : World) : Calls Tryz.prog 111 #[.int .u64 1, .int .u64 n] w fun e w' => e = .returned (.tuple #[.int .u64 0, .int .u64 n]) ∧ w = w' := by
  have h := Tryz.bits_Mul 1 n (by decide) (by omega) w
  have e1 : 1 * n / 18446744073709551616 = 0 := by omega
  have e2 : 1 * n % 18446744073709551616 = n := by omega
  rw [e1, e2] at h
  exact h.mono fun e w' ⟨he, hw⟩ => ⟨he, hw.symm⟩

theorem ownsRow_whole {w : World} {base : Nat} {e : TypeId} {g n : Nat} {xs : List Value} (h : w.ownsRow base e 1 (.slice (some ⟨g, 0, none⟩) n n) n xs) : w.heap[g]? = some (.cells xs.toArray e (0, 0)) ∧ base ≤ g ∧ xs.length = n := by
  obtain ⟨h1, h2⟩ := h
  rcases h2 with ⟨h2, _⟩ | ⟨g', cap', cur, hv, hg, hh, hn, hc, hs, ht⟩
  · cases h2
  · injection hv with hv1 hv2 hv3
    injection hv1 with hv1; injection hv1 with hv1
    subst hv1; subst hv3
    refine ⟨?_, hg, by simpa using h1⟩
    rw [hh, ← ht, List.take_of_length_le (by simp [hs])]
theorem owns_of_whole {w : World} {base : Nat} {e : TypeId} {g n : Nat} {xs : List Value} (h : w.heap[g]? = some (.cells xs.toArray e (0, 0))) (hb : base ≤ g) (hl : xs.length = n) (hm : n ≤ maxLen) : w.ownsRow base e 1 (.slice (some ⟨g, 0, none⟩) n n) n xs :=
  ⟨by simpa using hl, .inr ⟨g, n, xs.toArray, rfl, hb, h, Nat.le_refl _, hm, by simpa using hl, by rw [← hl]; simp⟩⟩

theorem splice_rep {α : Type} (cur : List α) (z : α) (k m n : Nat) (hl : cur.length = n) (hk : cur.take k = List.replicate k z) (hm : k + m ≤ n) : (splice cur k (List.replicate m z)).length = n ∧ (splice cur k (List.replicate m z)).take (k + m) = List.replicate (k + m) z := by
  refine ⟨by rw [length_splice _ _ _ (by simp; omega), hl], ?_⟩
  unfold splice
  have h1 : (cur.take k).length = k := by rw [List.length_take]; omega
  rw [hk, List.take_append, List.length_replicate, Nat.add_sub_cancel_left, List.take_of_length_le (by simp), List.take_append, List.length_replicate, Nat.sub_self, List.take_zero, List.append_nil, List.take_of_length_le (by simp), List.replicate_append_replicate]

theorem one_at {w : World} {b o : Nat} {v : Value} (h : w.cell? ⟨b, o, none⟩ = some v) : ∀ j u, [v][j]? = some u → w.cell? ((⟨b, o, none⟩ : Addr).add j) = some u := fun j u hu => by
  cases j with
  | zero => simp at hu; subst hu; simpa [Addr.add] using h
  | succ j => simp at hu

theorem rep_at {w : World} {g k m : Nat} {cur : List Value} {v : Value} {e : TypeId} (h : w.heap[g]? = some (.cells cur.toArray e (0, 0))) (ht : cur.take k = List.replicate k v) : ∀ j u, (List.replicate (min k m) v)[j]? = some u → w.cell? ((⟨g, 0, none⟩ : Addr).add j) = some u := fun j u hu => by
  rw [List.getElem?_replicate] at hu
  split at hu
  · injection hu with hu; subst hu
    have hj : cur[j]? = some v := by
      have : (cur.take k)[j]? = some v := by rw [ht, List.getElem?_replicate, if_pos (by omega)]
      rw [List.getElem?_take] at this
      split at this
      · exact this
      · simp at this
    have e1 : ((⟨g, 0, none⟩ : Addr).add j) = ⟨g, j, none⟩ := by unfold Addr.add; split <;> simp_all
    rw [e1]
    simp [World.cell?, h, hj]
  · simp at hu

theorem rep_one (m : Nat) (z : Int) : ∀ v ∈ List.replicate m (sv z), v.oneCell' = true := fun v h => by rw [List.eq_of_mem_replicate h]; rfl

def RepPost (w : World) (n : Nat) (xs : List Value) (e : Ending) (w' : World) : Prop := ∃ g c, e = .returned (.slice (some ⟨g, 0, none⟩) n c) ∧ Fr w w' ∧ w'.ownsRow w.heap.size 65 1 (.slice (some ⟨g, 0, none⟩) n c) n xs

set_option maxRecDepth 100000 in
set_option maxHeartbeats 2000000 in
theorem Repeat_one (b o cp n : Nat) (z : Int) (w : World) (hn1 : 1 ≤ n) (hn2 : n ≤ 1000000) (hc : w.cell? ⟨b, o, none⟩ = some (sv z)) :
    Calls Tryz.prog 156 #[.slice (some ⟨b, o, none⟩) 1 cp, .int .i64 n] w (RepPost w n (List.replicate n (sv z))) := by
  obtain ⟨i0, hi, hz0, hz1, hz2⟩ := info_parts info65
  go_enter Tryz.func156, Tryz.ntmps156
  go_wp2_with fail
  refine (Mul_one n hn2 _).mono ?_; rintro e w' ⟨rfl, rfl⟩
  go_wp2_with (first | (at_make; refine wpList_make_full _ rfl _ _ 56 rfl w.heap.size 65 i0 _ 1 Tryz.underlying56 hi hz0 hz1 _ _ _ _ n (by rfl) (by rfl) (by omega) (by omega) (by rw [hz2]; omega) (by unfold maxLen; omega) (Nat.le_refl _) ?_; intro w2 hown2 hgr2; obtain ⟨hw2, -, hlen2⟩ := ownsRow_whole hown2; have hf2 := (Fr.refl w).grown hgr2 (fun k e => by cases e); generalize (madeCells (Value.cells (Value.string ⟨#[]⟩)) (n * 1)).toList = L at hown2 hw2 hlen2; replace hw2 := Lib.hid hw2; replace hlen2 := Lib.hid hlen2; have hc2 := hf2.keep hc; have hfB : Below w.heap.size w w2 := hf2) | ((with_reducible refine wpList_copy_splice (o := ⟨some 33, _, _, _, _, _⟩) rfl (.tmp 31) (.tmp 32) 56 56 ?ho 65 Tryz.underlying56 size65 (some ⟨w.heap.size, 0, none⟩) (some ⟨b, o, none⟩) n n 1 cp ?hd ?hs w.heap.size 0 L 65 hw2.out [sv z] ?hn ?hpos ?hfit ?h1 w.heap.size w hfB (Nat.le_refl _) ?_); (try case ho => rfl); (try case hd => rfl); (try case hs => rfl); (case hn => exact (Nat.min_eq_left hn1).symm); (case hpos => exact fun _ => ⟨rfl, _, rfl, one_at hc2⟩); (case hfit => have := hlen2.out; simp; omega); (case h1 => simp [Value.oneCell']); intro w3 hw3 hf3))
  have hst := splice_rep L (sv z) 0 1 n hlen2.out (by simp) (by omega)
  replace hst := Lib.hid hst
  clear hown2 hw2 hc2 hfB hgr2 hf2
  go_loopg [8] n (fun m s8 wr => ∃ (k : Nat) (cur : List Value), s8 = .int .i64 k ∧ 1 ≤ k ∧ k ≤ n ∧ n - k ≤ m ∧ Hid (wr.heap[w.heap.size]? = some (.cells cur.toArray 65 (0, 0))) ∧ Hid (cur.length = n) ∧ Hid (cur.take k = List.replicate k (sv z)) ∧ Fr w wr)
  case atStart => exact ⟨1, splice L 0 [sv z], rfl, by omega, by omega, by omega, hw3, hst.out.1, hst.out.2, hf3⟩
  case round =>
    clear hw3 hf3 hst
    obtain ⟨k, cur, rfl, hk1, hk2, hm, hw, hlc, htk, hf⟩ := hrel
    by_cases hlt : k < n
    · have z0 : (0 : Int) ≤ (k : Int) := Int.natCast_nonneg _
      have z1 : (k : Int) ≤ (n : Int) := by omega
      have zne : ¬ n = k := by omega
      obtain ⟨c, hce⟩ : ∃ c, c = min k (n - k) := ⟨_, rfl⟩
      have hc1 : 1 ≤ c := by omega
      have hc2 : k + c ≤ n := by omega
      replace hce := Lib.hid hce
      go_wp2_with fail
      have hBw : Below w.heap.size w wr.drew := hf.drew
      have hww : wr.drew.heap[w.heap.size]? = some (.cells cur.toArray 65 (0, 0)) := hw.out
      have hcs : ∀ j u, (List.replicate c (sv z))[j]? = some u → wr.drew.cell? ((⟨w.heap.size, 0, none⟩ : Addr).add j) = some u := by rw [hce.out]; exact rep_at hww htk.out
      replace hww := Lib.hid hww
      replace hcs := Lib.hid hcs
      go_region_held3 (fun _ => True) (exact trivial) ((refine step_copy_splice (by rfl) (.tmp 41) (.tmp 44) 56 56 (by rfl) 65 Tryz.underlying56 size65 (some ⟨w.heap.size, k, none⟩) (some ⟨w.heap.size, 0, none⟩) (n - k) (n - k) k n (by rfl) (by rfl) w.heap.size k cur 65 hww.out (List.replicate c (sv z)) (by rw [List.length_replicate]; exact hce.out) (fun _ => ⟨rfl, _, rfl, hcs.out⟩) (by have := hlc.out; simp; omega) (rep_one _ _) w.heap.size w hBw (Nat.le_refl _) ?_; intro w4 hw4 hf4))
      have hsp := splice_rep cur (sv z) k c n hlc.out htk.out hc2
      go_wp2_with fail
      go_roundg (gk - 1)
      case measure => omega
      case rel => exact ⟨k + c, splice cur k (List.replicate c (sv z)), by simp; exact IntWalk.i64_in _ (by omega), by omega, by omega, by omega, hw4, hsp.1, hsp.2, hf4⟩
    · have hd : decide (k < n) = false := decide_eq_false hlt
      obtain rfl : k = n := by omega
      have hcur : cur = List.replicate k (sv z) := by have := htk.out; rw [List.take_of_length_le (by rw [hlc.out]; omega)] at this; exact this
      replace hcur := Lib.hid hcur
      go_wp2_with fail
      go_ret
      exact ⟨_, _, rfl, hf, by have h := hw.out; rw [hcur.out] at h; exact owns_of_whole h (Nat.le_refl _) (by simp) (by unfold maxLen; omega)⟩

/-- the rows of a unit matrix -/
def unitRow (n i : Nat) : List Int := (List.replicate n 0).set i 1
def unitM (n : Nat) : List (List Int) := (List.range n).map (unitRow n)

set_option maxHeartbeats 2000000 in
theorem unit_any (n : Nat) (w : World) (hG : G w) (hn1 : 1 ≤ n) (hn2 : n ≤ 1000000) :
    Calls Tryz.prog 125 #[.int .i64 n] w (GridRet w 56 (unitM n)) := by
  have hG1 := Lib.hid hG
  have hgn := gN_le hG
  obtain ⟨i1, ji, jz0, jz1, jz2⟩ := info_parts info56
  have hlen := Lib.hid (show (unitM n).length = n by simp [unitM])
  have hrow : ∀ i, i < n → (unitM n)[i]? = some (unitRow n i) := fun i hi => by simp [unitM, List.getElem?_range hi]
  replace hrow := Lib.hid hrow
  clear hG
  go_enter Tryz.func125, Tryz.ntmps125
  go_wp2_with fail
  go_loopg [3, 7] n (fun k s3 s7 wr => ∃ (j : Nat) (hs : List (Nat × Nat × Nat)), s7 = .int .i64 j ∧ j + k = n ∧ Fr w wr ∧ GG wr w.heap.size 56 s3 hs ((unitM n).take j) ∧ Hid (∀ h, h ∈ hs → w.heap.size ≤ h.1))
  case atStart => exact ⟨0, [], rfl, by omega, Fr.refl _, GG.nil _ _ _ hgn, fun h hm => by simp at hm⟩
  case round =>
    obtain ⟨j, hs, rfl, hjk, hf, hgg, hnew⟩ := hrel
    by_cases hlt : j < n
    · have hsn := Lib.hid (take_snoc (hrow.out j hlt))
      have hgl : ((unitM n).take j).length = j := by rw [List.length_take, hlen.out]; omega
      replace hgl := Lib.hid hgl
      have hc0 : (wr.alloc (.cells #[.string ⟨#[48]⟩] 65)).cell? ⟨wr.heap.size, 0, none⟩ = some (sv 0) := by rw [show sv 0 = .string ⟨#[48]⟩ from by rw [sv, tx_zero]]; exact new_cell _ _ _
      have hrep := (Repeat_one wr.heap.size 0 1 n 0 _ hn1 hn2 hc0)
      replace hc0 := Lib.hid hc0
      go_wp2_with fail
      refine hrep.mono ?_
      clear hrep
      rintro e w2 ⟨g, c, rfl, hf2, hown2⟩
      rw [show List.replicate n (sv 0) = (List.replicate n (0 : Int)).map sv by simp] at hown2
      obtain ⟨hO, -, -, hgb, hcp⟩ := ownsRow_own (by have := hf.size; simp; omega) hown2
      replace hown2 := Lib.hid hown2
      have hf3 : Fr wr w2 := ((Fr.refl wr).alloc _).trans hf2
      rw [World.size_alloc] at hgb
      obtain ⟨hs1, hs2⟩ := hO.2.2 j 0 (by rw [List.getElem?_replicate, if_pos hlt])
      rw [Nat.zero_add] at hs1 hs2
      have hO2 := hO.set (k := j) (by simpa using hlt) 1
      rw [Nat.zero_add, show sv 1 = .string ⟨#[49]⟩ from by rw [sv, tx_one]] at hO2
      have hf4 : Fr wr (w2.setCell ⟨g, j, none⟩ (.string ⟨#[49]⟩)) := hf3.setCell (p := ⟨g, j, none⟩) (by simp; omega) _
      have hgg2 := hgg.fr hf4
      have hO3 := Lib.hid (show Own (w2.setCell ⟨g, j, none⟩ (.string ⟨#[49]⟩)) g 0 (unitRow n j) from hO2)
      have hne : u3.ownBlock ≠ some g := fun e => by have h9 := (hgg.own.lt g e).2; omega
      have hne2 : ∀ h', h' ∈ hs → h'.1 ≠ g := fun h' hm e2 => by have h9 := hgg.lt h' hm; omega
      have hown3 := hgg2.own
      rw [hgl.out] at hown3
      clear hO2 hO
      have z0 : (0 : Int) ≤ (j : Int) := Int.natCast_nonneg _
      have z1 : (j : Int) < (n : Int) := by omega
      have hlen9 := Lib.hid (show (unitRow n j).length = n by simp [unitRow])
      go_wp2_with (at_builtin; refine wpList_append_lies _ rfl _ _ 136 (by rfl) _ 56 _ _ 1 24 Tryz.underlying136 ji jz0 jz1 jz2 rfl (by decide) _ j _ (by rfl) (World.ownsRow.alloc hown3 _) ⟨w2.heap.size, 0, none⟩ 1 1 [.slice (some ⟨g, 0, none⟩) n c] (by rfl) rfl (cell_one_newN _ _ _ _ (by simp)) (by simp [Value.oneCell']) (by decide) (by unfold maxLen; omega) (by omega) (by have := (hf.trans hf3).size; simp; omega) (w2.heap.size + 1) (by simp) ?_; intro gA capA wA hownA hgrowA hatA hltA)
      have hpush := (hgg2.fr ((Fr.refl _).alloc _)).pushN (hd := (g, 0, c)) (hO3.out.fr ((Fr.refl _).alloc _)) hne2 hne hgl.out (by unfold hdr; rw [hlen9.out]) hownA hgrowA (hatA.imp id (fun e => by rw [e]; simp))
      rw [← hsn.out] at hpush
      have hfrA : Fr w wA := (((hf.trans hf4).alloc _)).grown hgrowA (fun k e => (hgg2.own.lt k e).1)
      go_roundg (gk - 1)
      case measure => omega
      case rel => exact ⟨j + 1, _, by go_num, by omega, hfrA, hpush, fun h hm => by rcases List.mem_append.1 hm with h1 | h1; exact hnew.out h h1; (simp at h1; subst h1; have := hf.size; simp; omega)⟩
    · have hd : decide (j < n) = false := decide_eq_false hlt
      have hjm : (unitM n).take j = unitM n := List.take_of_length_le (by rw [hlen.out]; omega)
      rw [hjm] at hgg
      replace hjm := Lib.hid hjm
      go_wp2_with fail
      go_ret
      exact ⟨_, hs, rfl, hgg, hnew, hf⟩
end Go.Proofs.YtphjfalibnnohaaGreatDoor
