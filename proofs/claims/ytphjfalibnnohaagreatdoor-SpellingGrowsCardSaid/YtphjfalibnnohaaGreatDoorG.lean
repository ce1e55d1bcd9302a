/- Frame words: G: the table of powers of ten is laid; Fr: all that was there stands as it stood. -/
import Derived.Test.YtphjfalibnnohaaGreatDoorProg
import Derived.Test.YtphjfalibnnohaaGreatDoorTx
import Derived.WalkKit
import Derived.WalkLawsBesides
import Derived.WalkSpells
import Derived.Outline
import Derived.Lib.Hide
import Derived.BigQuiet
import Derived.Deep.QuietTactic
import Derived.Lib.LaidTab
namespace Go.Proofs.YtphjfalibnnohaaGreatDoor
open Go.RowKit Go.Lib

/-- the table of powers of ten reads as it was laid -/
def G (w : World) : Prop := TabIs Tryz.prog w "internal/strconv.uint64pow10" .u64 pow10Tab

/-- all that was there stands as it stood -/
def Fr (w w' : World) : Prop := Below w.heap.size w w'

theorem Fr.refl (w : World) : Fr w w := Below.refl _ _
theorem Fr.of_eq {w w' : World} (h : w = w') : Fr w w' := h ▸ Fr.refl w
theorem Fr.size {w w' : World} (h : Fr w w') : w.heap.size ≤ w'.heap.size := Below.size h
theorem Fr.trans {a b c : World} (h : Fr a b) (k : Fr b c) : Fr a c := Below.trans h (Below.mono k h.size)
theorem Fr.drew {a b : World} (h : Fr a b) : Fr a b.drew := Below.drew h
theorem Fr.drewN {a b : World} (h : Fr a b) (n : Nat) : Fr a (b.drewN n) :=
  have h : Below a.heap.size a b := h
  show Below a.heap.size a (b.drewN n) from ⟨h.os, h.tape, h.output, h.size, h.block⟩
theorem Fr.alloc {a b : World} (h : Fr a b) (o : Obj) : Fr a (b.alloc o) := Below.alloc h h.size o
theorem Fr.setCell {a b : World} (h : Fr a b) {p : Addr} (hp : a.heap.size ≤ p.block) (u : Value) : Fr a (b.setCell p u) := Below.setCell h hp u
theorem Fr.grown {a b c : World} {row : Option Nat} (h : Fr a b) (hg : b.grownBy c row) (hr : ∀ k, row = some k → a.heap.size ≤ k) : Fr a c :=
  Below.grown h hg h.size hr
theorem Fr.cell {w w' : World} (h : Fr w w') {p : Addr} (hp : p.block < w.heap.size) : w'.cell? p = w.cell? p := Below.cell h hp
theorem Fr.frozen {w w' : World} (h : Fr w w') {p : Addr} (hp : p.block < w.heap.size) : w'.frozen? p = w.frozen? p := Below.frozen h hp
theorem Fr.cells {w w' : World} (h : Fr w w') : (∀ b o, b < w.heap.size → w'.cell? ⟨b, o, none⟩ = w.cell? ⟨b, o, none⟩) ∧ (∀ b o, b < w.heap.size → w'.frozen? ⟨b, o, none⟩ = w.frozen? ⟨b, o, none⟩) :=
  ⟨fun b o hb => h.cell (p := ⟨b, o, none⟩) hb, fun b o hb => h.frozen (p := ⟨b, o, none⟩) hb⟩

theorem Fr.keep {w w' : World} (h : Fr w w') {p : Addr} {v : Value} (hc : w.cell? p = some v) : w'.cell? p = some v := by
  rw [h.cell (World.block_lt_of_cell? w p hc)]; exact hc
theorem Fr.keepf {w w' : World} (h : Fr w w') {p : Addr} {v : Value} {b : Bool} (hc : w.cell? p = some v) (hf : w.frozen? p = b) : w'.frozen? p = b := by
  rw [h.frozen (World.block_lt_of_cell? w p hc)]; exact hf

/-- nothing but draws -/
def Qt (w w' : World) : Prop := ∃ n, w' = w.drewN n
theorem Qt.refl (w : World) : Qt w w := ⟨0, rfl⟩
theorem Qt.trans {a b c : World} (h : Qt a b) (k : Qt b c) : Qt a c := by
  obtain ⟨n, rfl⟩ := h; obtain ⟨m, rfl⟩ := k; exact ⟨n + m, by simp [World.drewN, Nat.add_assoc]⟩
theorem Qt.drewN {a b : World} (h : Qt a b) (n : Nat) : Qt a (b.drewN n) := h.trans ⟨n, rfl⟩
theorem Qt.drew {a b : World} (h : Qt a b) : Qt a b.drew := h.trans ⟨1, rfl⟩
theorem Qt.fr {w w' : World} (h : Qt w w') : Fr w w' := by obtain ⟨n, rfl⟩ := h; exact (Fr.refl w).drewN n

theorem var_lt {P : Program} {g : Nat} {W : World} {n : String} {cs : Array Value} (hg : P.globalNamed n = some g) (hv : W.var? P n = some cs) : g < W.heap.size := by
  unfold World.var? at hv
  simp only [hg, Option.bind_some] at hv
  by_cases h : g < W.heap.size
  · exact h
  · rw [Array.getElem?_eq_none (by omega)] at hv; simp at hv

theorem gnum : Tryz.prog.globalNamed "internal/strconv.uint64pow10" = some 0 := by kernel_rfl

theorem G.fr {w w' : World} (h : G w) (k : Fr w w') : G w' := var?_below k gnum (var_lt gnum h) h
theorem G.lt {w : World} (h : G w) : 0 < w.heap.size := var_lt gnum h
theorem G.below {B : Nat} {w w' : World} (h : G w) (hB : 0 < B) (k : Below B w w') : G w' := var?_below k gnum hB h
end Go.Proofs.YtphjfalibnnohaaGreatDoor
