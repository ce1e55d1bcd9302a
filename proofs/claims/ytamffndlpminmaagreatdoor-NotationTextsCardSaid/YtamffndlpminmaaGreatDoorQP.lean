/-
  Contracts and laws for the statements of the seat, QP.
-/
import Derived.Test.YtamffndlpminmaaGreatDoorShelf
import Derived.Test.YtamffndlpminmaaGreatDoorQH
import Derived.Test.YtamffndlpminmaaGreatDoorQD
import Derived.IntWalk
import Derived.Test.YtamffndlpminmaaGreatDoorQL

/- notation.cut of a right word; notation.find. -/
namespace Go.Proofs.YtamffndlpminmaaGreatDoor
open Go.RowKit Go.Lib
attribute [local go_sem ↓] Go.wp_at_zero Go.wp_at_succ

/-- is a text's byte at a name's place that of another text? -/
theorem find1_pred (w : World) (p : Nat) (s : ByteArray) (L : List Sy) (hp : w.cell? ⟨p, 0, none⟩ = some (.string s)) :
    PredP w 93 #[.pointer (some ⟨p, 0, none⟩)] Sy.enc (fun y => y.nm.toList == s.toList) L := fun x W _ hW => by
  have hp2 := hW.keep hp
  show Calls Tryz.prog 93 #[.agg #[.string x.nm, .slice x.ra x.row.length x.rc], .pointer (some ⟨p, 0, none⟩)] W _
  have hf : Fr W (W.alloc (.cells #[.string x.nm, .slice x.ra x.row.length x.rc] 56)) := (Fr.refl _).alloc _
  have c0 := hf.keep hp2
  have c1 := (new2a W (.string x.nm) (.slice x.ra x.row.length x.rc) 56).1
  go_enter Tryz.func93, Tryz.ntmps93
  go_wp2_with fail
  go_ret
  exact ⟨rfl, hf⟩
theorem Find_any (L : List Sy) (a : Option Addr) (c n : Nat) (s : ByteArray) (w : World) (hL : Syms w a L) (hn : L.length = n) (hl : n ≤ 1000000000) :
    Calls Tryz.prog 43 #[.slice a n c, .string s] w fun e w' => e = .returned (.int .i64 (idx (fun y : Sy => y.nm.toList == s.toList) L)) ∧ Fr w w' := by
  subst hn
  have eg : ∀ args w, (callFunc 93 args).run Tryz.prog w = .ok (.enter 93 args) w := enters_of Tryz.func93 (by kernel_rfl) rfl
  have hf : Fr w (w.alloc (.cells #[.string s] 9)) := (Fr.refl _).alloc _
  have c0 : (w.alloc (.cells #[.string s] 9)).cell? ⟨w.heap.size, 0, none⟩ = some (.string s) := new_cell _ _ _
  have hi := IndexFunc_sym Sy.enc L a c 93 #[.pointer (some ⟨w.heap.size, 0, none⟩)] (fun y : Sy => y.nm.toList == s.toList) _ eg (hL.fr hf).1 hl (find1_pred _ w.heap.size s L c0)
  replace eg := Lib.hid eg
  clear c0 hL
  go_enter Tryz.func43, Tryz.ntmps43
  go_wp2_with fail
  refine hi.mono ?_
  rintro e w' ⟨rfl, hf2⟩
  go_wp2_with fail
  go_ret
  exact ⟨rfl, hf.trans hf2⟩

/-- three cells that can be written -/
structure Cel3 (w : World) (r : Nat) (v u t : Value) : Prop where
  a : w.cell? ⟨r, 0, none⟩ = some v
  b : w.cell? ⟨r, 1, none⟩ = some u
  c : w.cell? ⟨r, 2, none⟩ = some t
  fa : w.frozen? ⟨r, 0, none⟩ = false
  fb : w.frozen? ⟨r, 1, none⟩ = false
  fc : w.frozen? ⟨r, 2, none⟩ = false
theorem Cel3.fx {p : Nat → Prop} {w w' : World} {r : Nat} {v u t : Value} (h : Cel3 w r v u t) (k : Fx p w w') (h1 : ¬ p r) : Cel3 w' r v u t :=
  ⟨k.keep h.a h1, k.keep h.b h1, k.keep h.c h1, k.keepf h.a h.fa h1, k.keepf h.b h.fb h1, k.keepf h.c h.fc h1⟩
theorem Cel3.fr {w w' : World} {r : Nat} {v u t : Value} (h : Cel3 w r v u t) (k : Fr w w') : Cel3 w' r v u t := h.fx (p := fun _ => False) (Fx.of_fr k) (fun e => e)
theorem Cel3.new (w : World) (v u t : Value) (T : TypeId) : Cel3 (w.alloc (.cells #[v, u, t] T)) w.heap.size v u t := by
  have h : (w.alloc (.cells #[v, u, t] T)).heap[w.heap.size]? = some (.cells #[v, u, t] T (0, 0)) := heap_alloc_new w _
  refine ⟨?_, ?_, ?_, ?_, ?_, ?_⟩ <;> (first | (unfold World.cell?; rw [h]; rfl) | (unfold World.frozen?; rw [h]; rfl))
theorem Cel3.stored {w : World} {r : Nat} {v u t : Value} (h : Cel3 w r v u t) (v' u' t' : Value) : Cel3 (((w.setCell ⟨r, 0, none⟩ v').setCell ⟨r, 1, none⟩ u').setCell ⟨r, 2, none⟩ t') r v' u' t' := by
  obtain ⟨c0, c1, c2, f0, f1, f2⟩ := h
  have ne : ∀ i j : Nat, i ≠ j → (⟨r, i, none⟩ : Addr) ≠ ⟨r, j, none⟩ := fun i j hij e => by injection e with _ e; exact hij e
  refine ⟨?_, ?_, ?_, ?_, ?_, ?_⟩
  · rw [World.cell?_setCell_other _ _ _ _ (ne 2 0 (by decide)), World.cell?_setCell_other _ _ _ _ (ne 1 0 (by decide))]
    exact World.cell?_setCell_same' _ _ _ (by rw [c0]; rfl)
  · rw [World.cell?_setCell_other _ _ _ _ (ne 2 1 (by decide))]
    exact World.cell?_setCell_same' _ _ _ (by rw [World.cell?_setCell_other _ _ _ _ (ne 0 1 (by decide)), c1]; rfl)
  · exact World.cell?_setCell_same' _ _ _ (by rw [World.cell?_setCell_other _ _ _ _ (ne 1 2 (by decide)), World.cell?_setCell_other _ _ _ _ (ne 0 2 (by decide)), c2]; rfl)
  all_goals (simp only [World.frozen?_setCell]; assumption)
theorem cel3_fx (w : World) (r : Nat) (u0 u1 u2 : Value) : Fx (· = r) w (((w.setCell ⟨r, 0, none⟩ u0).setCell ⟨r, 1, none⟩ u1).setCell ⟨r, 2, none⟩ u2) :=
  ((Fx.setCell (p := (· = r)) (q := ⟨r, 0, none⟩) (Fx.refl _ w) (.inl rfl) u0).setCell (q := ⟨r, 1, none⟩) (.inl rfl) u1).setCell (q := ⟨r, 2, none⟩) (.inl rfl) u2
set_option maxRecDepth 100000 in
set_option maxHeartbeats 4000000 in
theorem Cut_ok (s nm ds : ByteArray) (k : Nat) (ng : Bool) (w : World) (hidx : Lib.indexAny s.data.toList [43, 45] = k) (hk : k < s.size) (hs : s.size ≤ 1000) (has : ∀ (j : Nat) b, s.data.toList[j]? = some b → b.toNat < 128) (hnme : nm = s.extract 0 k) (hdse : ds = s.extract (k + 1) s.size) (hng : ng = ((s[k].toNat : Int) == 45)) (hnm : isName nm = true)
    (hd0 : 0 < ds.size) (hd1 : ∀ (j : Nat) (h : j < ds.size), 48 ≤ ds[j].toNat ∧ ds[j].toNat ≤ 57) (hd2 : ds[0].toNat ≠ 48) :
    Calls Tryz.prog 42 #[.string s] w fun e w' => e = .returned (.tuple #[.agg #[.string nm, .bool ng, .string ds], .bool true]) ∧ Fr w w' := by
  have hia := Lib.hid (fun W : World => Tryz.strings_IndexAny_laid s ⟨#[43, 45]⟩ W (by omega) (by decide) has (fun j b hj => by
    match j, hj with
    | 0, hj => injection hj with hj; rw [← hj]; decide
    | 1, hj => injection hj with hj; rw [← hj]; decide
    | j + 2, hj => cases hj))
  have e0 : (⟨#[43, 45]⟩ : ByteArray).data.toList = [43, 45] := rfl
  rw [e0, hidx] at hia
  clear hidx has e0
  have hin := Lib.hid (fun W : World => IsName_any nm W (by rw [hnme, ByteArray.size_extract]; omega))
  rw [hnm] at hin
  have hds : ds.size ≤ 1000 := by rw [hdse, ByteArray.size_extract]; omega
  have hne : ds.toList.isEmpty = false := by
    have : ds.toList.length = ds.size := by rw [ByteArray.toList_eq]; rfl
    cases hh : ds.toList with
    | nil => rw [hh] at this; have h0 : 0 = ds.size := this; omega
    | cons => rfl
  have f0 : Fr w (w.alloc (.cells #[.string ⟨#[]⟩, .bool false, .string ⟨#[]⟩] 84)) := (Fr.refl _).alloc _
  obtain ⟨W1, hW1⟩ : ∃ W1, W1 = w.alloc (.cells #[.string ⟨#[]⟩, .bool false, .string ⟨#[]⟩] 84) := ⟨_, rfl⟩
  have hP1 : Cel3 W1 w.heap.size (.string ⟨#[]⟩) (.bool false) (.string ⟨#[]⟩) := by rw [hW1]; exact Cel3.new _ _ _ _ _
  rw [← hW1] at f0
  replace hng := Lib.hid hng
  replace hdse := Lib.hid hdse
  go_enter Tryz.func42, Tryz.ntmps42
  go_upto_region 1 with (fail)
  rw [← hW1]
  clear hW1
  obtain ⟨pb, hpb⟩ : ∃ pb, pb = w.heap.size := ⟨_, rfl⟩
  rw [← hpb] at hP1 ⊢
  replace hpb := Lib.hid hpb
  go_wp2_with fail
  refine (hia.out _).mono ?_
  rintro e w2 ⟨rfl, hf2⟩
  replace hf2 : Fr W1 w2 := hf2
  have d0 : decide ((k : Int) < 0) = false := decide_eq_false (by omega)
  have z0 : (0 : Int) ≤ (k : Int) := by omega
  have z1 : (k : Int) < (s.size : Int) := by omega
  have z2 : (k : Int) + 1 ≤ (s.size : Int) := by omega
  have z3 : (0 : Int) ≤ (k : Int) + 1 := by omega
  have hnme2 := hnme.symm
  replace hnme := Lib.hid hnme
  go_wp2_with fail
  refine (hin.out _).mono ?_
  rintro e w3 ⟨rfl, rfl⟩
  have hw1 : IntKind.i64.wrap ((k : Int) + 1) = (k : Int) + 1 := IntWalk.i64_in _ (by omega)
  have ht1 : ((k : Int) + 1).toNat = k + 1 := by omega
  have hd8 : Fr w2 w2.drew := (Fr.refl w2).drew
  go_wp2_with fail
  refine wp_region_U (S := fun _ => True) 13 (by kernel_rfl) trivial (fun hHeld => ?_)
  refine wpAnyU_take (i := 0) (v := ?_) rfl (by kernel_rfl) (by decide) (by kernel_rfl) (by kernel_rfl) (by kernel_rfl) (by kernel_rfl) (fun _ _ _ h => h) (Or.inl ⟨by rfl, ?_⟩) (by assumption) ?_
  rotate_left
  · (intro w hSw; (try dsimp only at hSw); go_simp; try (with_reducible rfl))
  change wpAnyU _ _ _ _ _ _ _ _ (Act.put _ (some 19) _) _
  simp only [Act.put, List.setIfInBounds_toArray, List.set_cons_zero, List.set_cons_succ]
  refine wpAnyU_take (i := 1) (v := ?_) rfl (by kernel_rfl) (by decide) (by kernel_rfl) (by kernel_rfl) (by kernel_rfl) (by kernel_rfl) (fun _ _ _ h => h) (Or.inl ⟨by rfl, ?_⟩) (by assumption) ?_
  rotate_left
  · (intro w hSw; (try dsimp only at hSw); go_simp; try (with_reducible rfl))
  change wpAnyU _ _ _ _ _ _ _ _ (Act.put _ (some 20) _) _
  simp only [Act.put, List.setIfInBounds_toArray, List.set_cons_zero, List.set_cons_succ]
  refine wpAnyU_take (i := 2) (v := ?_) rfl (by kernel_rfl) (by decide) (by kernel_rfl) (by kernel_rfl) (by kernel_rfl) (by kernel_rfl) (fun _ _ _ h => h) (Or.inl ⟨by rfl, ?_⟩) (by assumption) ?_
  rotate_left
  · (intro w hSw; (try dsimp only at hSw); go_simp; rw [if_pos (by omega)])
  change wpAnyU _ _ _ _ _ _ _ _ (Act.put _ (some 21) _) _
  simp only [Act.put, List.setIfInBounds_toArray, List.set_cons_zero, List.set_cons_succ]
  refine wpAnyU_take (i := 3) (v := ?_) rfl (by kernel_rfl) (by decide) (by kernel_rfl) (by kernel_rfl) (by kernel_rfl) (by kernel_rfl) (fun _ _ _ h => h) (Or.inl ⟨by rfl, ?_⟩) (by assumption) ?_
  rotate_left
  · (intro w hSw; (try dsimp only at hSw); go_simp; try (with_reducible rfl))
  change wpAnyU _ _ _ _ _ _ _ _ (Act.put _ (some 22) _) _
  simp only [Act.put, List.setIfInBounds_toArray, List.set_cons_zero, List.set_cons_succ]
  refine wpAnyU_take (i := 4) (v := ?_) rfl (by kernel_rfl) (by decide) (by kernel_rfl) (by kernel_rfl) (by kernel_rfl) (by kernel_rfl) (fun _ _ _ h => h) (Or.inl ⟨by rfl, ?_⟩) (by assumption) ?_
  rotate_left
  · (intro w hSw; (try dsimp only at hSw); go_simp; try (with_reducible rfl))
  change wpAnyU _ _ _ _ _ _ _ _ (Act.put _ (some 23) _) _
  simp only [Act.put, List.setIfInBounds_toArray, List.set_cons_zero, List.set_cons_succ]
  refine wpAnyU_take (i := 5) (v := ?_) rfl (by kernel_rfl) (by decide) (by kernel_rfl) (by kernel_rfl) (by kernel_rfl) (by kernel_rfl) (fun _ _ _ h => h) (Or.inl ⟨by rfl, ?_⟩) (by assumption) ?_
  rotate_left
  · (intro w hSw; (try dsimp only at hSw); go_simp; try (with_reducible rfl))
  change wpAnyU _ _ _ _ _ _ _ _ (Act.put _ (some 24) _) _
  simp only [Act.put, List.setIfInBounds_toArray, List.set_cons_zero, List.set_cons_succ]
  refine wpAnyU_take (i := 6) (v := ?_) rfl (by kernel_rfl) (by decide) (by kernel_rfl) (by kernel_rfl) (by kernel_rfl) (by kernel_rfl) (fun _ _ _ h => h) (Or.inl ⟨by rfl, ?_⟩) (by assumption) ?_
  rotate_left
  · (intro w hSw; (try dsimp only at hSw); go_simp; try (with_reducible rfl))
  change wpAnyU _ _ _ _ _ _ _ _ (Act.put _ (some 25) _) _
  simp only [Act.put, List.setIfInBounds_toArray, List.set_cons_zero, List.set_cons_succ]
  refine wpAnyU_take (i := 7) (v := ?_) rfl (by kernel_rfl) (by decide) (by kernel_rfl) (by kernel_rfl) (by kernel_rfl) (by kernel_rfl) (fun _ _ _ h => h) (Or.inl ⟨by rfl, ?_⟩) (by assumption) ?_
  rotate_left
  · (intro w hSw; (try dsimp only at hSw); go_simp; try (with_reducible rfl))
  change wpAnyU _ _ _ _ _ _ _ _ (Act.put _ (some 26) _) _
  simp only [Act.put, List.setIfInBounds_toArray, List.set_cons_zero, List.set_cons_succ]
  refine wpAnyU_take (i := 8) (v := ?_) rfl (by kernel_rfl) (by decide) (by kernel_rfl) (by kernel_rfl) (by kernel_rfl) (by kernel_rfl) (fun _ _ _ h => h) (Or.inl ⟨by rfl, ?_⟩) (by assumption) ?_
  rotate_left
  · (intro w hSw; (try dsimp only at hSw); go_simp; try (with_reducible rfl))
  change wpAnyU _ _ _ _ _ _ _ _ (Act.put _ (some 27) _) _
  simp only [Act.put, List.setIfInBounds_toArray, List.set_cons_zero, List.set_cons_succ]
  refine wpAnyU_take (i := 9) (v := ?_) rfl (by kernel_rfl) (by decide) (by kernel_rfl) (by kernel_rfl) (by kernel_rfl) (by kernel_rfl) (fun _ _ _ h => h) (Or.inl ⟨by rfl, ?_⟩) (by assumption) ?_
  rotate_left
  · (intro w hSw; (try dsimp only at hSw); go_simp; try (with_reducible rfl))
  change wpAnyU _ _ _ _ _ _ _ _ (Act.put _ (some 28) _) _
  simp only [Act.put, List.setIfInBounds_toArray, List.set_cons_zero, List.set_cons_succ]
  refine wpAnyU_take (i := 10) (v := ?_) rfl (by kernel_rfl) (by decide) (by kernel_rfl) (by kernel_rfl) (by kernel_rfl) (by kernel_rfl) (fun _ _ _ h => h) (Or.inl ⟨by rfl, ?_⟩) (by assumption) ?_
  rotate_left
  · (intro w hSw; (try dsimp only at hSw); go_simp; try (with_reducible rfl))
  change wpAnyU _ _ _ _ _ _ _ _ (Act.put _ (some 29) _) _
  simp only [Act.put, List.setIfInBounds_toArray, List.set_cons_zero, List.set_cons_succ]
  refine wpAnyU_take (i := 11) (v := ?_) rfl (by kernel_rfl) (by decide) (by kernel_rfl) (by kernel_rfl) (by kernel_rfl) (by kernel_rfl) (fun _ _ _ h => h) (Or.inl ⟨by rfl, ?_⟩) (by assumption) ?_
  rotate_left
  · (intro w hSw; (try dsimp only at hSw); go_simp; try (with_reducible rfl))
  change wpAnyU _ _ _ _ _ _ _ _ (Act.put _ (some 30) _) _
  simp only [Act.put, List.setIfInBounds_toArray, List.set_cons_zero, List.set_cons_succ]
  refine wpAnyU_ready (rs := [12]) (by kernel_rfl) (by simp) ?_
  refine AllReadyU.cons rfl (fun K hK => ?_) AllReadyU.nil
  go_simp
  refine hK.out _ _ trivial (fun hHeld => ?_)
  clear hK K
  try simp only [Act.put, List.setIfInBounds_toArray, List.set_cons_zero, List.set_cons_succ]
  clear hHeld
  refine wpAnyU_ready (rs := [13]) (by kernel_rfl) (by simp) ?_
  refine AllReadyU.last rfl (by kernel_rfl) (by kernel_rfl) (fun K hK => ?_)
  go_simp
  refine hK.out _ _ ?_
  clear hK K
  obtain ⟨W4, hW4⟩ : ∃ W4, W4 = (w2.alloc (.cells #[.string nm, .bool ng, .string ds] 84)).drew := ⟨_, rfl⟩
  have f4 : Fr w2 W4 := by rw [hW4]; exact ((Fr.refl _).alloc _).drew
  obtain ⟨qb, hqb⟩ : ∃ qb, qb = w2.heap.size := ⟨_, rfl⟩
  have hP4 : Cel3 W4 qb (.string nm) (.bool ng) (.string ds) := by rw [hW4, hqb]; exact (Cel3.new w2 _ _ _ _).fr (Fr.refl _).drew
  rw [← hng.out, ← hdse.out, ← hqb]
  rw [← hW4]
  clear hW4
  replace hqb := Lib.hid hqb
  have f24 := f0.trans (hf2.trans f4)
  have hP5 := Lib.hid (hP1.fr (hf2.trans f4))
  have hP6 := Lib.hid hP4
  have m2 := hP4.c
  have y0 : (0 : Int) < (ds.size : Int) := by omega
  have y1 : ((ds[0].toNat : Int) == 48) = false := beq_false_of_ne (by omega)
  clear hP1 hP4
  go_wp2_with fail
  go_loopg [44] ds.size (fun m s44 wr => ∃ j : Nat, s44 = .int .i64 j ∧ j + m = ds.size ∧ wr = W4)
  case atStart => exact ⟨0, rfl, by omega, rfl⟩
  case round =>
    obtain ⟨j, rfl, hjm, rfl⟩ := hrel
    by_cases hj : j < ds.size
    · have dj : decide (j < ds.size) = true := decide_eq_true hj
      obtain ⟨b1, b2⟩ := hd1 j hj
      have e1 : decide ((ds[j].toNat : Int) < 48) = false := decide_eq_false (by omega)
      have e2 : decide ((57 : Int) < (ds[j].toNat : Int)) = false := decide_eq_false (by omega)
      have u0 : (0 : Int) ≤ (j : Int) := by omega
      have u1 : (j : Int) < (ds.size : Int) := by omega
      go_wp2_with fail
      go_roundg (gk - 1)
      case measure => omega
      case rel => exact ⟨j + 1, by go_num, by omega, rfl⟩
    · have dj : decide (j < ds.size) = false := decide_eq_false hj
      have hS9 := Lib.hid (hP5.out.stored (.string nm) (.bool ng) (.string ds))
      have hfx9 := Lib.hid (cel3_fx wr pb (.string nm) (.bool ng) (.string ds))
      have m0 := hP6.out.a
      have m1 := hP6.out.b
      obtain ⟨a0, a1, a2, g0, g1, g2⟩ := hP5.out
      go_wp2_with fail
      obtain ⟨q0, q1, q2, -⟩ := hS9.out
      refine bodyPost_ret (v := .tuple #[.agg #[.string nm, .bool ng, .string ds], .bool true]) (by simp [results, Tryz.results42, go_sem, q0, q1, q2]) rfl ?_
      exact ⟨rfl, ((Fx.of_fr f24).trans hfx9.out).toFr (fun k hk e => by have e : k = pb := e; have := hpb.out; omega)⟩
end Go.Proofs.YtamffndlpminmaaGreatDoor

/- notation.Parse of a right text. -/
namespace Go.Proofs.YtamffndlpminmaaGreatDoor
open Go.RowKit Go.Lib
attribute [local go_sem ↓] Go.wp_at_zero Go.wp_at_succ

/-- a word: a name, a sign, digits -/
structure Pc where
  nm : ByteArray
  ng : Bool
  k : Int
def Pc.cells (p : Pc) : List Value := [.string p.nm, .bool p.ng, .string (tx p.k)]
def Pc.val (p : Pc) : Int := if p.ng then -p.k else p.k
/-- the counts behind the first words -/
def cntT (pcs : List Pc) (ats : List Nat) (d : Nat) : Nat → List Int
  | 0 => List.replicate d 0
  | i + 1 => match pcs[i]?, ats[i]? with
    | some p, some t => (cntT pcs ats d i).set t p.val
    | _, _ => cntT pcs ats d i
theorem cntT_len (pcs : List Pc) (ats : List Nat) (d : Nat) : ∀ i, (cntT pcs ats d i).length = d
  | 0 => List.length_replicate
  | i + 1 => by
    rw [cntT]
    split
    · rw [List.length_set, cntT_len pcs ats d i]
    · exact cntT_len pcs ats d i
def flat3 (l : List Pc) : List Value := l.flatMap Pc.cells
theorem flat3_snoc (l : List Pc) (p : Pc) : flat3 (l ++ [p]) = flat3 l ++ [.string p.nm, .bool p.ng, .string (tx p.k)] := by
  unfold flat3; rw [List.flatMap_append]; simp [Pc.cells]
theorem flat3_at : ∀ (l : List Pc) (i : Nat) (p : Pc), l[i]? = some p → (flat3 l)[i * 3]? = some (.string p.nm) ∧ (flat3 l)[i * 3 + 1]? = some (.bool p.ng) ∧ (flat3 l)[i * 3 + 2]? = some (.string (tx p.k))
  | q :: l, 0, p, h => by
    simp at h; subst h
    exact ⟨rfl, rfl, rfl⟩
  | q :: l, i + 1, p, h => by
    have h2 := flat3_at l i p (by simpa using h)
    have e : flat3 (q :: l) = .string q.nm :: .bool q.ng :: .string (tx q.k) :: flat3 l := rfl
    rw [e, Nat.succ_mul]
    exact ⟨by simpa using h2.1, by simpa using h2.2.1, by simpa using h2.2.2⟩
theorem infoPc : (Tryz.prog.info? 84).map (fun i => (i.zero, i.size, i.bytes)) = some (some (.agg #[.string ⟨#[]⟩, .bool false, .string ⟨#[]⟩]), 3, 40) := by kernel_rfl
theorem cell_three (w : World) (x y z : Value) (t : TypeId) (n : Nat) (hn : w.heap.size = n) : ∀ (j : Nat) (u : Value), [x, y, z][j]? = some u → (w.alloc (.cells #[x, y, z] t)).cell? ((⟨n, 0, none⟩ : Addr).add j) = some u := fun j u hu => by
  subst hn
  have h : (w.alloc (.cells #[x, y, z] t)).heap[w.heap.size]? = some (.cells #[x, y, z] t (0, 0)) := heap_alloc_new w _
  match j, hu with
  | 0, hu => injection hu with hu; subst hu; exact (Cel3.new w x y z t).a
  | 1, hu => injection hu with hu; subst hu; exact (Cel3.new w x y z t).b
  | 2, hu => injection hu with hu; subst hu; exact (Cel3.new w x y z t).c
  | j + 3, hu => cases hu

theorem step_make_full {P : Program} (w : World) {ops : Array Oper} {o : Oper} {a : Act} {K : Act → World → Prop} {Q : Exit → Act → World → Prop} {E : Prop}
    (hg : o.guard = none) (l c : Operand) (t : TypeId) (hop : o.op = Op.makeSlice t l c)
    (base : Nat) (e : TypeId) (i : TypeInfo) (z : Value) (size : Nat) (h1 : P.underlying t = some (.slice e)) (h2 : P.info? e = some i) (h3 : i.zero = some z) (h4 : i.size = size)
    (kl kc : IntKind) (L C : Int) (n : Nat) (hl : a.eval l = .int kl L) (hc : a.eval c = .int kc C) (hL : L = (n : Int)) (hC : C = (n : Int)) (b2 : i.bytes * n ≤ 281474976710656) (b3 : n ≤ maxLen) (b4 : base ≤ w.heap.size)
    (hK : ∀ w', w'.ownsRow base e size (.slice (some ⟨w.heap.size, 0, none⟩) n n) n (madeCells z.cells (n * size)).toList → w.grownBy w' none → K (a.put o.dst (.slice (some ⟨w.heap.size, 0, none⟩) n n)) w') :
    if Region.wanted o (yielded ops a.tmps) = true then Oper.wp P o a w K Q else E := by
  have hw : Region.wanted o (yielded ops a.tmps) = true := by simp [Region.wanted, hg]
  rw [if_pos hw]
  obtain ⟨w', hrun, r1, r2⟩ := run_make_full (P := P) w base t e i z size h1 h2 h3 h4 kl kc n b2 b3 b4
  subst hL
  subst hC
  unfold Oper.wp
  simp [execOp, hop, hl, hc, hrun, Result.andThen]
  exact hK w' r1 r2
set_option maxRecDepth 100000 in
set_option maxHeartbeats 16000000 in
theorem Parse_ok (N A : List Sy) (d i0 : Nat) (s w0 : ByteArray) (ws : List ByteArray) (pcs : List Pc) (ats : List Nat) (aN aA : Option Addr) (cN cA : Nat) (w : World) (hG : G w) (hmx : ∃ m, w.cell? ⟨3, 0, none⟩ = some (.int .i64 m)) (hn : NotIs w aN aA cA N A) (lenA : A.length = d) (d1 : 1 ≤ d) (d6 : d ≤ 6) (n60 : N.length ≤ 60)
    (hsz : s.size ≤ 65536) (hspl : Lib.splitB ⟨#[32]⟩ 0 (Lib.countB s ⟨#[32]⟩) s = w0 :: ws) (hcnt : Lib.countB s ⟨#[32]⟩ = ws.length) (hw0s : w0.size ≤ 1000) (hw0 : isName w0 = true) (hwl : ws.length ≤ 1000) (hm1 : 1 ≤ ws.length) (hpl : pcs.length = ws.length)
    (hcut : ∀ (i : Nat) (x : ByteArray) (p : Pc), ws[i]? = some x → pcs[i]? = some p → ∀ W, Fr w W → Calls Tryz.prog 42 #[.string x] W fun e w' => e = .returned (.tuple #[.agg #[.string p.nm, .bool p.ng, .string (tx p.k)], .bool true]) ∧ Fr W w')
    (hN : idx (fun y : Sy => y.nm.toList == w0.toList) N = i0) (hal : ats.length = pcs.length) (hA : ∀ (i : Nat) (p : Pc) (t : Nat), pcs[i]? = some p → ats[i]? = some t → idx (fun y : Sy => y.nm.toList == p.nm.toList) A = t ∧ t < d)
    (hinc : ∀ (i t u : Nat), ats[i]? = some t → ats[i + 1]? = some u → t < u) (hk : ∀ p, p ∈ pcs → 1 ≤ p.k ∧ p.k ≤ 1000000000)
    (hck : ∀ W, Fr w W → Calls Tryz.prog 25 #[.agg #[.slice aN N.length cN, .slice aA A.length cA]] W fun e w' => e = .returned (.int .i64 0) ∧ Fr W w') :
    Calls Tryz.prog 14 #[.agg #[.slice aN N.length cN, .slice aA A.length cA], .string s] w (SpRet w i0 (cntT pcs ats d ws.length) d) := by
  have hgn := gN_le hG
  obtain ⟨i3, ki, kz0, kz1, kz2⟩ := info_parts infoPc
  obtain ⟨i4, li, lz0, lz1, lz2⟩ := info_parts infoInt
  obtain ⟨mx, hmx⟩ := hmx
  rw [lenA] at hck ⊢
  obtain ⟨M, hM⟩ : ∃ M, M = N.length := ⟨_, rfl⟩
  rw [← hM] at n60 hck ⊢
  have hsp := Lib.hid (fun W (hW : Fr w W) => Tryz.strings_Split s ⟨#[32]⟩ mx W (by omega) (hW.keep hmx) (by decide))
  rw [hspl, hcnt] at hsp
  have hfn := Lib.hid (fun W (hW : Fr w W) => Find_any N aN cN M w0 W (hn.noms.fr hW) hM.symm (by omega))
  rw [hN] at hfn
  have hfa := Lib.hid (fun (i : Nat) (p : Pc) (t : Nat) (h1 : pcs[i]? = some p) (h2 : ats[i]? = some t) W (hW : Fr w W) => by
    have h := Find_any A aA cA d p.nm W (hn.accs.fr hW) lenA (by omega)
    rw [(hA i p t h1 h2).1] at h
    exact h)
  have hta := Lib.hid (fun (i : Nat) (p : Pc) (t : Nat) (h1 : pcs[i]? = some p) (h2 : ats[i]? = some t) => (hA i p t h1 h2).2)
  have hin := Lib.hid (fun W : World => IsName_any w0 W (by omega))
  rw [hw0] at hin
  have hcn := Lib.hid (fun i => cntT_len pcs ats d i)
  obtain ⟨m, hm⟩ : ∃ m, m = ws.length := ⟨_, rfl⟩
  rw [← hm] at hsp hwl hpl hm1 ⊢
  have hm2 : ¬ m = 0 := by omega
  rw [hpl] at hal
  replace hck := Lib.hid hck
  replace hcut := Lib.hid hcut
  replace hal := Lib.hid hal
  replace hpl := Lib.hid hpl
  replace hinc := Lib.hid hinc
  replace hk := Lib.hid hk
  replace hm := Lib.hid hm
  replace hM := Lib.hid hM
  clear hG hmx hn lenA hspl hcnt hw0 hN hA
  obtain ⟨nb, hnb⟩ : ∃ nb, nb = w.heap.size := ⟨_, rfl⟩
  obtain ⟨W1, hW1⟩ : ∃ W1, W1 = (w.alloc (.cells #[.slice aN M cN, .slice aA d cA] 34)).alloc (.cells #[.int .i64 0, .slice none 0 0] 31) := ⟨_, rfl⟩
  have f1 : Fr w W1 := by rw [hW1]; exact ((Fr.refl _).alloc _).alloc _
  have hN1 : Cel2 W1 nb (.slice aN M cN) (.slice aA d cA) := by rw [hW1, hnb]; exact (Cel2.new w _ _ _).fr ((Fr.refl _).alloc _)
  have hS1 : Cel2 W1 (nb + 1) (.int .i64 0) (.slice none 0 0) := by
    have := Cel2.new (w.alloc (.cells #[.slice aN M cN, .slice aA d cA] 34)) (.int .i64 0) (.slice none 0 0) 31
    rw [World.size_alloc] at this
    rw [hW1, hnb]; exact this
  go_enter Tryz.func14, Tryz.ntmps14
  go_upto_region 1 with (fail)
  rw [← hW1, ← hnb]
  clear hW1
  replace hnb := Lib.hid hnb
  have n0 := hN1.a
  have n1' := hN1.b
  replace hN1 := Lib.hid hN1
  replace hS1 := Lib.hid hS1
  go_wp2_with fail
  refine (hck.out _ f1).mono ?_
  rintro e w2 ⟨rfl, hf2⟩
  have f2 := f1.trans hf2
  have dz : decide ((65536 : Int) < (s.size : Int)) = false := decide_eq_false (by omega)
  clear n0 n1'
  go_wp2_with fail
  refine (hsp.out _ f2).mono ?_
  rintro e w3 ⟨rfl, hw3⟩
  have hcw : ∀ (i : Nat) (x : ByteArray), (w0 :: ws)[i]? = some x → w3.cell? ⟨w2.heap.size, i, none⟩ = some (.string x) := fun i x hx => by
    rw [hw3]
    have h : (w2.alloc (.cells ((w0 :: ws).map Value.string).toArray 9)).heap[w2.heap.size]? = some (.cells ((w0 :: ws).map Value.string).toArray 9 (0, 0)) := heap_alloc_new w2 _
    unfold World.cell?
    rw [h]
    show ((w0 :: ws).map Value.string).toArray[i]? = _
    rw [List.getElem?_toArray, List.getElem?_map, hx]; rfl
  have f23 : Fr w2 w3 := by rw [hw3]; exact (Fr.refl _).alloc _
  have f3 := f2.trans f23
  have f13 := hf2.trans f23
  obtain ⟨wb, hwb⟩ : ∃ wb, wb = w2.heap.size := ⟨_, rfl⟩
  rw [← hwb] at hcw ⊢
  replace hwb := Lib.hid hwb
  have k0 := hcw 0 w0 rfl
  replace hcw := Lib.hid hcw
  clear hw3 hsp hck
  have zm : (0 : Int) < ((m + 1 : Nat) : Int) := by omega
  go_wp2_with fail
  refine (hin.out _).mono ?_
  rintro e w4 ⟨rfl, rfl⟩
  go_wp2_with fail
  go_loopg [8, 43] m (fun k s8 s43 wr => ∃ i : Nat, s43 = .int .i64 i ∧ i + k = m ∧ Fr w3 wr ∧ Hid (wr.ownsRow w3.heap.size 84 3 s8 i (flat3 (pcs.take i))))
  case atStart => exact ⟨0, rfl, by omega, Fr.refl _, World.ownsRow_nil _ _ _ _⟩
  case round =>
    clear k0
    obtain ⟨i, rfl, hik, hf, hown⟩ := hrel
    have hFr := f3.trans hf
    obtain ⟨wo, rfl⟩ : ∃ wo : World, wo = wr := ⟨_, rfl⟩
    obtain ⟨ko, rfl⟩ : ∃ ko : Nat, ko = gk := ⟨_, rfl⟩
    obtain ⟨v, rfl⟩ : ∃ v : Value, v = u8 := ⟨_, rfl⟩
    by_cases hi : i < m
    · have hdI : decide (i < m) = true := decide_eq_true hi
      obtain ⟨x, hx⟩ : ∃ x, ws[i]? = some x := ⟨_, List.getElem?_eq_getElem (by rw [← hm.out]; exact hi)⟩
      obtain ⟨p, hp⟩ : ∃ p, pcs[i]? = some p := ⟨_, List.getElem?_eq_getElem (by rw [hpl.out]; exact hi)⟩
      have hc1 := hf.keep (hcw.out (i + 1) x (by simpa using hx))
      have ec : 1 + i = i + 1 := Nat.add_comm _ _
      rw [← ec] at hc1
      have hcu := Lib.hid (fun W (hW : Fr wo W) => hcut.out i x p hx hp W (hFr.trans hW))
      have hsn := Lib.hid (take_snoc hp)
      have z0 : (0 : Int) ≤ (i : Int) := Int.natCast_nonneg _
      have z1 : (i : Int) < (m : Int) := by omega
      replace hx := Lib.hid hx
      replace hp := Lib.hid hp
      replace ec := Lib.hid ec
      go_wp2_with fail
      refine (hcu.out _ (Fr.refl _)).mono ?_
      rintro e wA ⟨rfl, hfA⟩
      obtain ⟨pn, hpn⟩ : ∃ pn, pn = p.nm := ⟨_, rfl⟩
      obtain ⟨pg, hpg⟩ : ∃ pg, pg = p.ng := ⟨_, rfl⟩
      obtain ⟨pd, hpd⟩ : ∃ pd, pd = tx p.k := ⟨_, rfl⟩
      rw [← hpn, ← hpg, ← hpd]
      replace hpn := Lib.hid hpn
      replace hpg := Lib.hid hpg
      replace hpd := Lib.hid hpd
      obtain ⟨W6, hW6⟩ : ∃ W6, W6 = wA.alloc (.cells #[.string pn, .bool pg, .string pd] 84) := ⟨_, rfl⟩
      have f6 : Fr wA W6 := by rw [hW6]; exact (Fr.refl _).alloc _
      obtain ⟨qb, hqb⟩ : ∃ qb, qb = wA.heap.size := ⟨_, rfl⟩
      have hP6 : Cel3 W6 qb (.string pn) (.bool pg) (.string pd) := by rw [hW6, hqb]; exact Cel3.new _ _ _ _ _
      go_upto_region 14 with (fail)
      rw [← hW6, ← hqb]
      clear hW6
      replace hqb := Lib.hid hqb
      obtain ⟨m0, m1, m2, -, -, -⟩ := hP6
      have hfa : Fr wo (W6.alloc (.cells #[.string pn, .bool pg, .string pd] 84)) := (hfA.trans f6).alloc _
      have hownG := ownsRow_fr hown.out hfa
      have hcs := cell_three W6 (.string pn) (.bool pg) (.string pd) 84 W6.heap.size rfl
      have hz1 := hf.size
      have hz2 := (hfA.trans f6).size
      replace hcs := Lib.hid hcs
      go_wp2_with (at_builtin; refine wpList_append_lies _ rfl _ _ 82 (by rfl) _ 84 _ _ 3 40 Tryz.underlying82 ki kz0 kz1 kz2 rfl (by decide) _ i _ (by rfl) hownG ⟨W6.heap.size, 0, none⟩ 1 1 [.string pn, .bool pg, .string pd] (by rfl) rfl hcs.out (by simp [Value.oneCell']) (by decide) (by unfold maxLen; omega) (by omega) (by simp; omega) (W6.heap.size + 1) (by simp) ?_; intro gA capA wA hownA hgrowA hatA hltA; replace hownA := Lib.hid hownA)
      have hfrA : Fr w3 wA := (hf.trans hfa).grown hgrowA (fun k e => (hown.out.lt k e).1)
      go_wp2_with fail
      go_roundg (ko - 1)
      case measure => omega
      case rel => exact ⟨i + 1, by go_num, by omega, hfrA, by show World.ownsRow _ _ _ _ _ _ _; rw [hsn.out, flat3_snoc, ← hpn.out, ← hpg.out, ← hpd.out]; exact hownA.out⟩
    · have hdI : decide (i < m) = false := decide_eq_false hi
      obtain rfl : m = i := by omega
      have hown9 := hown.out
      rw [List.take_of_length_le (by rw [hpl.out]; exact Nat.le_refl _)] at hown9
      obtain ⟨g3, c3, rfl, -⟩ := World.ownsRow.form hown9 hm1
      obtain ⟨-, -, hg3, -, hpc⟩ := ownsRow_some hown9
      replace hpc := Lib.hid hpc
      clear hown9 hown
      have n0 := hf.keep (f13.keep hN1.out.a)
      have n1 := hf.keep (f13.keep hN1.out.b)
      have k0 := hf.keep (hcw.out 0 w0 rfl)
      have hfo := Lib.hid (fun W (hW : Fr wo W) => hfn.out W (hFr.trans hW))
      have hS0 := Lib.hid (fun W' (hW' : Fr wo W') => (⟨hW'.keep n0, hW'.keep n1, hW'.keep k0⟩ : W'.cell? ⟨nb, 0, none⟩ = some (.slice aN M cN) ∧ W'.cell? ⟨nb, 1, none⟩ = some (.slice aA d cA) ∧ W'.cell? ⟨wb, 0, none⟩ = some (.string w0)))
      go_upto_region 18 with (fail)
      go_cut [13] from 60 (fun s13 wc => ∃ (gO ob : Nat), s13 = .pointer (some ⟨ob, 0, none⟩) ∧ Fr wo wc ∧ Cel2 wc ob (.int .i64 i0) (.slice (some ⟨gO, 0, none⟩) d d) ∧ OwnI wc gO 0 (List.replicate d 0) ∧ wo.heap.size ≤ gO ∧ wo.heap.size ≤ ob ∧ gO ≠ ob)
      case first =>
        have hgw : gN ≤ wo.heap.size := by have := hFr.size; omega
        have hd0 : Fr wo wo.drew := (Fr.refl wo).drew
        refine wp_region_U (S := fun W' => W'.cell? ⟨nb, 0, none⟩ = some (.slice aN M cN) ∧ W'.cell? ⟨nb, 1, none⟩ = some (.slice aA d cA) ∧ W'.cell? ⟨wb, 0, none⟩ = some (.string w0)) 12 (by kernel_rfl) (hS0.out _ hd0) (fun hHeld => ?_)
        refine wpAnyU_take (i := 0) (v := ?_) rfl (by kernel_rfl) (by decide) (by kernel_rfl) (by kernel_rfl) (by kernel_rfl) (by kernel_rfl) (fun _ _ _ h => h) (Or.inl ⟨by rfl, ?_⟩) (by assumption) ?_
        rotate_left
        · (intro w hSw; (try dsimp only at hSw); go_simp; try (with_reducible rfl))
        change wpAnyU _ _ _ _ _ _ _ _ (Act.put _ (some 60) _) _
        simp only [Act.put, List.setIfInBounds_toArray, List.set_cons_zero, List.set_cons_succ]
        refine wpAnyU_take (i := 1) (v := ?_) rfl (by kernel_rfl) (by decide) (by kernel_rfl) (by kernel_rfl) (by kernel_rfl) (by kernel_rfl) (fun _ _ _ h => h) (Or.inl ⟨by rfl, ?_⟩) (by assumption) ?_
        rotate_left
        · (intro w hSw; (try dsimp only at hSw); go_simp; try (with_reducible rfl))
        change wpAnyU _ _ _ _ _ _ _ _ (Act.put _ (some 61) _) _
        simp only [Act.put, List.setIfInBounds_toArray, List.set_cons_zero, List.set_cons_succ]
        refine wpAnyU_take (i := 2) (v := ?_) rfl (by kernel_rfl) (by decide) (by kernel_rfl) (by kernel_rfl) (by kernel_rfl) (by kernel_rfl) (fun _ _ _ h => h) (Or.inl ⟨by rfl, ?_⟩) (by assumption) ?_
        rotate_left
        · (intro w hSw; (try dsimp only at hSw); go_simp; try (with_reducible rfl))
        change wpAnyU _ _ _ _ _ _ _ _ (Act.put _ (some 62) _) _
        simp only [Act.put, List.setIfInBounds_toArray, List.set_cons_zero, List.set_cons_succ]
        refine wpAnyU_take (i := 3) (v := ?_) rfl (by kernel_rfl) (by decide) (by kernel_rfl) (by kernel_rfl) (by kernel_rfl) (by kernel_rfl) (fun _ _ _ h => h) (Or.inl ⟨by rfl, ?_⟩) (by assumption) ?_
        rotate_left
        · (intro w hSw; (try dsimp only at hSw); go_simp; try (with_reducible rfl))
        change wpAnyU _ _ _ _ _ _ _ _ (Act.put _ (some 63) _) _
        simp only [Act.put, List.setIfInBounds_toArray, List.set_cons_zero, List.set_cons_succ]
        refine wpAnyU_take (i := 4) (v := ?_) rfl (by kernel_rfl) (by decide) (by kernel_rfl) (by kernel_rfl) (by kernel_rfl) (by kernel_rfl) (fun _ _ _ h => h) (Or.inl ⟨by rfl, ?_⟩) (by assumption) ?_
        rotate_left
        · (intro w hSw; (try dsimp only at hSw); go_simp; try (with_reducible rfl))
        change wpAnyU _ _ _ _ _ _ _ _ (Act.put _ (some 64) _) _
        simp only [Act.put, List.setIfInBounds_toArray, List.set_cons_zero, List.set_cons_succ]
        refine wpAnyU_take (i := 6) (v := ?_) rfl (by kernel_rfl) (by decide) (by kernel_rfl) (by kernel_rfl) (by kernel_rfl) (by kernel_rfl) (fun _ _ _ h => h) (Or.inl ⟨by rfl, ?_⟩) (by assumption) ?_
        rotate_left
        · (intro w hSw; (try dsimp only at hSw); go_simp; try (with_reducible rfl))
        change wpAnyU _ _ _ _ _ _ _ _ (Act.put _ (some 66) _) _
        simp only [Act.put, List.setIfInBounds_toArray, List.set_cons_zero, List.set_cons_succ]
        refine wpAnyU_take (i := 7) (v := ?_) rfl (by kernel_rfl) (by decide) (by kernel_rfl) (by kernel_rfl) (by kernel_rfl) (by kernel_rfl) (fun _ _ _ h => h) (Or.inl ⟨by rfl, ?_⟩) (by assumption) ?_
        rotate_left
        · (intro w hSw; (try dsimp only at hSw); go_simp; try (with_reducible rfl))
        change wpAnyU _ _ _ _ _ _ _ _ (Act.put _ (some 67) _) _
        simp only [Act.put, List.setIfInBounds_toArray, List.set_cons_zero, List.set_cons_succ]
        refine wpAnyU_take (i := 8) (v := ?_) rfl (by kernel_rfl) (by decide) (by kernel_rfl) (by kernel_rfl) (by kernel_rfl) (by kernel_rfl) (fun _ _ _ h => h) (Or.inl ⟨by rfl, ?_⟩) (by assumption) ?_
        rotate_left
        · (intro w hSw; (try dsimp only at hSw); go_simp; try (with_reducible rfl))
        change wpAnyU _ _ _ _ _ _ _ _ (Act.put _ (some 68) _) _
        simp only [Act.put, List.setIfInBounds_toArray, List.set_cons_zero, List.set_cons_succ]
        obtain ⟨wd, hwd⟩ : ∃ wd, wd = wo.drew := ⟨_, rfl⟩
        rw [← hwd] at hd0 hHeld ⊢
        clear hwd
        refine wpAnyU_ready (rs := [5, 9, 11]) (by kernel_rfl) (by simp) ?_
        refine AllReadyU.cons rfl (fun K hK => ?_) (AllReadyU.cons rfl (fun K hK => ?_) (AllReadyU.cons rfl (fun K hK => ?_) AllReadyU.nil))
        ·
          go_simp
          refine (hfo.out _ hd0).mono ?_
          rintro e wa5 ⟨rfl, hfC⟩
          have ha5 : Fr wo wa5 := Fr.trans hd0 hfC
          (try replace hMk := hMk.fr hfC)
          (try replace hAl := hAl.fr hfC)
          (try replace hM2 := Nat.lt_of_lt_of_le hM2 hfC.size)
          go_wp2_with fail
          refine hK.out _ _ (hS0.out _ ha5) (fun hHeld => ?_)
          clear hK K hfC
          try simp only [Act.put, List.setIfInBounds_toArray, List.set_cons_zero, List.set_cons_succ]
          refine wpAnyU_ready (rs := [9, 11]) (by kernel_rfl) (by simp) ?_
          refine AllReadyU.cons rfl (fun K hK => ?_) (AllReadyU.cons rfl (fun K hK => ?_) AllReadyU.nil)
          ·
            refine step_make_full _ rfl _ _ 29 rfl wa5.heap.size 3 i4 _ 1 Tryz.underlying29 li lz0 lz1 .i64 .i64 (d : Int) (d : Int) d (by simp [Act.eval]) (by simp [Act.eval]) rfl rfl (by rw [lz2]; omega) (by unfold maxLen; omega) (Nat.le_refl _) ?_
            intro wb9 hownM hgrM
            have hfM : Fr wa5 wb9 := (Fr.refl _).grown hgrM (fun k e => by cases e)
            have hb9 : Fr wo wb9 := Fr.trans ha5 hfM
            rw [made_zero d rfl] at hownM
            (try have hAl9 := hAl.lt)
            obtain ⟨gO, hgO⟩ : ∃ gO, gO = wa5.heap.size := ⟨_, rfl⟩
            rw [← hgO] at hownM ⊢
            have hM1 : wo.heap.size ≤ gO := by rw [hgO]; exact Fr.size ha5
            (try have hne : gO ≠ ob := by omega)
            replace hgO := Lib.hid hgO
            have hMk := (ownsRow_ownI (by omega) (ownsRow_mono (base' := gN) hownM (by have := hgO.out; omega))).1
            have hM2 : gO < wb9.heap.size := (hownM.lt gO rfl).2
            (try replace hAl := hAl.fr hfM)
            refine hK.out _ _ (hS0.out _ hb9) (fun hHeld => ?_)
            clear hK K hownM hgrM
            try simp only [Act.put, List.setIfInBounds_toArray]
            refine wpAnyU_take (i := 10) (v := ?_) rfl (by kernel_rfl) (by decide) (by kernel_rfl) (by kernel_rfl) (by kernel_rfl) (by kernel_rfl) (fun _ _ _ h => h) (Or.inl ⟨by rfl, ?_⟩) (by assumption) ?_
            rotate_left
            · (intro w hSw; (try dsimp only at hSw); go_simp; try (with_reducible rfl))
            change wpAnyU _ _ _ _ _ _ _ _ (Act.put _ (some 70) _) _
            simp only [Act.put]
            refine wpAnyU_ready (rs := [11]) (by kernel_rfl) (by simp) ?_
            refine AllReadyU.cons rfl (fun K hK => ?_) AllReadyU.nil
            go_simp
            refine hK.out _ _ (hS0.out _ (Fr.alloc hb9 _)) (fun hHeld => ?_)
            clear hK K
            try simp only [Act.put, List.setIfInBounds_toArray, List.set_cons_zero, List.set_cons_succ]
            obtain ⟨wc11, hW⟩ : ∃ W, W = wb9.alloc (.cells #[.int .i64 0, .slice none 0 0] 31) := ⟨_, rfl⟩
            have hfA : Fr wb9 wc11 := by rw [hW]; exact (Fr.refl _).alloc _
            have hc11 : Fr wo wc11 := Fr.trans hb9 hfA
            obtain ⟨ob, hob⟩ : ∃ ob, ob = wb9.heap.size := ⟨_, rfl⟩
            have hAl : Cel2 wc11 ob (.int .i64 0) (.slice none 0 0) := by rw [hW, hob]; exact Cel2.new _ _ _ _
            have hA1 : wo.heap.size ≤ ob := by rw [hob]; exact Fr.size hb9
            (try have hne : gO ≠ ob := by omega)
            rw [← hob, ← hW]
            rw [← hW] at hHeld
            (try replace hMk := hMk.fr hfA)
            (try replace hM2 := Nat.lt_of_lt_of_le hM2 hfA.size)
            clear hW
            replace hob := Lib.hid hob
            have hC9 := Lib.hid ((hAl.set0 (.int .i64 i0)).set1 (.slice (some ⟨gO, 0, none⟩) d d))
            have hfx9 : Hid (Fx (· = ob) wc11 ((wc11.setCell ⟨ob, 0, none⟩ (.int .i64 i0)).setCell ⟨ob, 1, none⟩ (.slice (some ⟨gO, 0, none⟩) d d))) := Fx.setCell (p := (· = ob)) (q := ⟨ob, 1, none⟩) (Fx.setCell (p := (· = ob)) (q := ⟨ob, 0, none⟩) (Fx.refl _ wc11) (.inl rfl) _) (.inl rfl) _
            have x1 := (hAl.set0 (.int .i64 i0)).b
            have x2 := (hAl.set0 (.int .i64 i0)).fb
            obtain ⟨p0, p1, p2, p3⟩ := hAl
            replace hMk := Lib.hid hMk
            clear hHeld
            refine wpAnyU_ready (rs := [12]) (by kernel_rfl) (by simp) ?_
            refine AllReadyU.last rfl (by kernel_rfl) (by kernel_rfl) (fun K hK => ?_)
            go_simp
            refine hK.out _ _ ?_
            clear hK K
            go_wp2_with fail
            go_meet
            case rel => exact ⟨gO, ob, rfl, ((Fx.of_fr hc11).trans hfx9.out).toFr (fun k hk e => by have e : k = ob := e; omega), hC9.out, hMk.out.fx hfx9.out (fun e => hne e), hM1, hA1, hne⟩
          ·
            go_simp
            refine hK.out _ _ (hS0.out _ (Fr.alloc ha5 _)) (fun hHeld => ?_)
            clear hK K
            try simp only [Act.put, List.setIfInBounds_toArray, List.set_cons_zero, List.set_cons_succ]
            obtain ⟨wb11, hW⟩ : ∃ W, W = wa5.alloc (.cells #[.int .i64 0, .slice none 0 0] 31) := ⟨_, rfl⟩
            have hfA : Fr wa5 wb11 := by rw [hW]; exact (Fr.refl _).alloc _
            have hb11 : Fr wo wb11 := Fr.trans ha5 hfA
            obtain ⟨ob, hob⟩ : ∃ ob, ob = wa5.heap.size := ⟨_, rfl⟩
            have hAl : Cel2 wb11 ob (.int .i64 0) (.slice none 0 0) := by rw [hW, hob]; exact Cel2.new _ _ _ _
            have hA1 : wo.heap.size ≤ ob := by rw [hob]; exact Fr.size ha5
            (try have hne : gO ≠ ob := by omega)
            rw [← hob, ← hW]
            rw [← hW] at hHeld
            (try replace hMk := hMk.fr hfA)
            (try replace hM2 := Nat.lt_of_lt_of_le hM2 hfA.size)
            clear hW
            replace hob := Lib.hid hob
            refine wpAnyU_ready (rs := [9]) (by kernel_rfl) (by simp) ?_
            refine AllReadyU.cons rfl (fun K hK => ?_) AllReadyU.nil
            refine step_make_full _ rfl _ _ 29 rfl wb11.heap.size 3 i4 _ 1 Tryz.underlying29 li lz0 lz1 .i64 .i64 (d : Int) (d : Int) d (by simp [Act.eval]) (by simp [Act.eval]) rfl rfl (by rw [lz2]; omega) (by unfold maxLen; omega) (Nat.le_refl _) ?_
            intro wc9 hownM hgrM
            have hfM : Fr wb11 wc9 := (Fr.refl _).grown hgrM (fun k e => by cases e)
            have hc9 : Fr wo wc9 := Fr.trans hb11 hfM
            rw [made_zero d rfl] at hownM
            (try have hAl9 := hAl.lt)
            obtain ⟨gO, hgO⟩ : ∃ gO, gO = wb11.heap.size := ⟨_, rfl⟩
            rw [← hgO] at hownM ⊢
            have hM1 : wo.heap.size ≤ gO := by rw [hgO]; exact Fr.size hb11
            (try have hne : gO ≠ ob := by omega)
            replace hgO := Lib.hid hgO
            have hMk := (ownsRow_ownI (by omega) (ownsRow_mono (base' := gN) hownM (by have := hgO.out; omega))).1
            have hM2 : gO < wc9.heap.size := (hownM.lt gO rfl).2
            (try replace hAl := hAl.fr hfM)
            refine hK.out _ _ (hS0.out _ hc9) (fun hHeld => ?_)
            clear hK K hownM hgrM
            try simp only [Act.put, List.setIfInBounds_toArray]
            refine wpAnyU_take (i := 10) (v := ?_) rfl (by kernel_rfl) (by decide) (by kernel_rfl) (by kernel_rfl) (by kernel_rfl) (by kernel_rfl) (fun _ _ _ h => h) (Or.inl ⟨by rfl, ?_⟩) (by assumption) ?_
            rotate_left
            · (intro w hSw; (try dsimp only at hSw); go_simp; try (with_reducible rfl))
            change wpAnyU _ _ _ _ _ _ _ _ (Act.put _ (some 70) _) _
            simp only [Act.put]
            have hC9 := Lib.hid ((hAl.set0 (.int .i64 i0)).set1 (.slice (some ⟨gO, 0, none⟩) d d))
            have hfx9 : Hid (Fx (· = ob) wc9 ((wc9.setCell ⟨ob, 0, none⟩ (.int .i64 i0)).setCell ⟨ob, 1, none⟩ (.slice (some ⟨gO, 0, none⟩) d d))) := Fx.setCell (p := (· = ob)) (q := ⟨ob, 1, none⟩) (Fx.setCell (p := (· = ob)) (q := ⟨ob, 0, none⟩) (Fx.refl _ wc9) (.inl rfl) _) (.inl rfl) _
            have x1 := (hAl.set0 (.int .i64 i0)).b
            have x2 := (hAl.set0 (.int .i64 i0)).fb
            obtain ⟨p0, p1, p2, p3⟩ := hAl
            replace hMk := Lib.hid hMk
            clear hHeld
            refine wpAnyU_ready (rs := [12]) (by kernel_rfl) (by simp) ?_
            refine AllReadyU.last rfl (by kernel_rfl) (by kernel_rfl) (fun K hK => ?_)
            go_simp
            refine hK.out _ _ ?_
            clear hK K
            go_wp2_with fail
            go_meet
            case rel => exact ⟨gO, ob, rfl, ((Fx.of_fr hc9).trans hfx9.out).toFr (fun k hk e => by have e : k = ob := e; omega), hC9.out, hMk.out.fx hfx9.out (fun e => hne e), hM1, hA1, hne⟩
        ·
          refine step_make_full _ rfl _ _ 29 rfl wd.heap.size 3 i4 _ 1 Tryz.underlying29 li lz0 lz1 .i64 .i64 (d : Int) (d : Int) d (by simp [Act.eval]) (by simp [Act.eval]) rfl rfl (by rw [lz2]; omega) (by unfold maxLen; omega) (Nat.le_refl _) ?_
          intro wa9 hownM hgrM
          have hfM : Fr wd wa9 := (Fr.refl _).grown hgrM (fun k e => by cases e)
          have ha9 : Fr wo wa9 := Fr.trans hd0 hfM
          rw [made_zero d rfl] at hownM
          (try have hAl9 := hAl.lt)
          obtain ⟨gO, hgO⟩ : ∃ gO, gO = wd.heap.size := ⟨_, rfl⟩
          rw [← hgO] at hownM ⊢
          have hM1 : wo.heap.size ≤ gO := by rw [hgO]; exact Fr.size hd0
          (try have hne : gO ≠ ob := by omega)
          replace hgO := Lib.hid hgO
          have hMk := (ownsRow_ownI (by omega) (ownsRow_mono (base' := gN) hownM (by have := hgO.out; omega))).1
          have hM2 : gO < wa9.heap.size := (hownM.lt gO rfl).2
          (try replace hAl := hAl.fr hfM)
          refine hK.out _ _ (hS0.out _ ha9) (fun hHeld => ?_)
          clear hK K hownM hgrM
          try simp only [Act.put, List.setIfInBounds_toArray]
          refine wpAnyU_ready (rs := [5, 11]) (by kernel_rfl) (by simp) ?_
          refine AllReadyU.cons rfl (fun K hK => ?_) (AllReadyU.cons rfl (fun K hK => ?_) AllReadyU.nil)
          ·
            go_simp
            refine (hfo.out _ ha9).mono ?_
            rintro e wb5 ⟨rfl, hfC⟩
            have hb5 : Fr wo wb5 := Fr.trans ha9 hfC
            (try replace hMk := hMk.fr hfC)
            (try replace hAl := hAl.fr hfC)
            (try replace hM2 := Nat.lt_of_lt_of_le hM2 hfC.size)
            go_wp2_with fail
            refine hK.out _ _ (hS0.out _ hb5) (fun hHeld => ?_)
            clear hK K hfC
            try simp only [Act.put, List.setIfInBounds_toArray, List.set_cons_zero, List.set_cons_succ]
            refine wpAnyU_take (i := 10) (v := ?_) rfl (by kernel_rfl) (by decide) (by kernel_rfl) (by kernel_rfl) (by kernel_rfl) (by kernel_rfl) (fun _ _ _ h => h) (Or.inl ⟨by rfl, ?_⟩) (by assumption) ?_
            rotate_left
            · (intro w hSw; (try dsimp only at hSw); go_simp; try (with_reducible rfl))
            change wpAnyU _ _ _ _ _ _ _ _ (Act.put _ (some 70) _) _
            simp only [Act.put, List.setIfInBounds_toArray, List.set_cons_zero, List.set_cons_succ]
            refine wpAnyU_ready (rs := [11]) (by kernel_rfl) (by simp) ?_
            refine AllReadyU.cons rfl (fun K hK => ?_) AllReadyU.nil
            go_simp
            refine hK.out _ _ (hS0.out _ (Fr.alloc hb5 _)) (fun hHeld => ?_)
            clear hK K
            try simp only [Act.put, List.setIfInBounds_toArray, List.set_cons_zero, List.set_cons_succ]
            obtain ⟨wc11, hW⟩ : ∃ W, W = wb5.alloc (.cells #[.int .i64 0, .slice none 0 0] 31) := ⟨_, rfl⟩
            have hfA : Fr wb5 wc11 := by rw [hW]; exact (Fr.refl _).alloc _
            have hc11 : Fr wo wc11 := Fr.trans hb5 hfA
            obtain ⟨ob, hob⟩ : ∃ ob, ob = wb5.heap.size := ⟨_, rfl⟩
            have hAl : Cel2 wc11 ob (.int .i64 0) (.slice none 0 0) := by rw [hW, hob]; exact Cel2.new _ _ _ _
            have hA1 : wo.heap.size ≤ ob := by rw [hob]; exact Fr.size hb5
            (try have hne : gO ≠ ob := by omega)
            rw [← hob, ← hW]
            rw [← hW] at hHeld
            (try replace hMk := hMk.fr hfA)
            (try replace hM2 := Nat.lt_of_lt_of_le hM2 hfA.size)
            clear hW
            replace hob := Lib.hid hob
            have hC9 := Lib.hid ((hAl.set0 (.int .i64 i0)).set1 (.slice (some ⟨gO, 0, none⟩) d d))
            have hfx9 : Hid (Fx (· = ob) wc11 ((wc11.setCell ⟨ob, 0, none⟩ (.int .i64 i0)).setCell ⟨ob, 1, none⟩ (.slice (some ⟨gO, 0, none⟩) d d))) := Fx.setCell (p := (· = ob)) (q := ⟨ob, 1, none⟩) (Fx.setCell (p := (· = ob)) (q := ⟨ob, 0, none⟩) (Fx.refl _ wc11) (.inl rfl) _) (.inl rfl) _
            have x1 := (hAl.set0 (.int .i64 i0)).b
            have x2 := (hAl.set0 (.int .i64 i0)).fb
            obtain ⟨p0, p1, p2, p3⟩ := hAl
            replace hMk := Lib.hid hMk
            clear hHeld
            refine wpAnyU_ready (rs := [12]) (by kernel_rfl) (by simp) ?_
            refine AllReadyU.last rfl (by kernel_rfl) (by kernel_rfl) (fun K hK => ?_)
            go_simp
            refine hK.out _ _ ?_
            clear hK K
            go_wp2_with fail
            go_meet
            case rel => exact ⟨gO, ob, rfl, ((Fx.of_fr hc11).trans hfx9.out).toFr (fun k hk e => by have e : k = ob := e; omega), hC9.out, hMk.out.fx hfx9.out (fun e => hne e), hM1, hA1, hne⟩
          ·
            go_simp
            refine hK.out _ _ (hS0.out _ (Fr.alloc ha9 _)) (fun hHeld => ?_)
            clear hK K
            try simp only [Act.put, List.setIfInBounds_toArray, List.set_cons_zero, List.set_cons_succ]
            obtain ⟨wb11, hW⟩ : ∃ W, W = wa9.alloc (.cells #[.int .i64 0, .slice none 0 0] 31) := ⟨_, rfl⟩
            have hfA : Fr wa9 wb11 := by rw [hW]; exact (Fr.refl _).alloc _
            have hb11 : Fr wo wb11 := Fr.trans ha9 hfA
            obtain ⟨ob, hob⟩ : ∃ ob, ob = wa9.heap.size := ⟨_, rfl⟩
            have hAl : Cel2 wb11 ob (.int .i64 0) (.slice none 0 0) := by rw [hW, hob]; exact Cel2.new _ _ _ _
            have hA1 : wo.heap.size ≤ ob := by rw [hob]; exact Fr.size ha9
            (try have hne : gO ≠ ob := by omega)
            rw [← hob, ← hW]
            rw [← hW] at hHeld
            (try replace hMk := hMk.fr hfA)
            (try replace hM2 := Nat.lt_of_lt_of_le hM2 hfA.size)
            clear hW
            replace hob := Lib.hid hob
            refine wpAnyU_ready (rs := [5]) (by kernel_rfl) (by simp) ?_
            refine AllReadyU.cons rfl (fun K hK => ?_) AllReadyU.nil
            go_simp
            refine (hfo.out _ hb11).mono ?_
            rintro e wc5 ⟨rfl, hfC⟩
            have hc5 : Fr wo wc5 := Fr.trans hb11 hfC
            (try replace hMk := hMk.fr hfC)
            (try replace hAl := hAl.fr hfC)
            (try replace hM2 := Nat.lt_of_lt_of_le hM2 hfC.size)
            go_wp2_with fail
            refine hK.out _ _ (hS0.out _ hc5) (fun hHeld => ?_)
            clear hK K hfC
            try simp only [Act.put, List.setIfInBounds_toArray, List.set_cons_zero, List.set_cons_succ]
            refine wpAnyU_take (i := 10) (v := ?_) rfl (by kernel_rfl) (by decide) (by kernel_rfl) (by kernel_rfl) (by kernel_rfl) (by kernel_rfl) (fun _ _ _ h => h) (Or.inl ⟨by rfl, ?_⟩) (by assumption) ?_
            rotate_left
            · (intro w hSw; (try dsimp only at hSw); go_simp; try (with_reducible rfl))
            change wpAnyU _ _ _ _ _ _ _ _ (Act.put _ (some 70) _) _
            simp only [Act.put, List.setIfInBounds_toArray, List.set_cons_zero, List.set_cons_succ]
            have hC9 := Lib.hid ((hAl.set0 (.int .i64 i0)).set1 (.slice (some ⟨gO, 0, none⟩) d d))
            have hfx9 : Hid (Fx (· = ob) wc5 ((wc5.setCell ⟨ob, 0, none⟩ (.int .i64 i0)).setCell ⟨ob, 1, none⟩ (.slice (some ⟨gO, 0, none⟩) d d))) := Fx.setCell (p := (· = ob)) (q := ⟨ob, 1, none⟩) (Fx.setCell (p := (· = ob)) (q := ⟨ob, 0, none⟩) (Fx.refl _ wc5) (.inl rfl) _) (.inl rfl) _
            have x1 := (hAl.set0 (.int .i64 i0)).b
            have x2 := (hAl.set0 (.int .i64 i0)).fb
            obtain ⟨p0, p1, p2, p3⟩ := hAl
            replace hMk := Lib.hid hMk
            clear hHeld
            refine wpAnyU_ready (rs := [12]) (by kernel_rfl) (by simp) ?_
            refine AllReadyU.last rfl (by kernel_rfl) (by kernel_rfl) (fun K hK => ?_)
            go_simp
            refine hK.out _ _ ?_
            clear hK K
            go_wp2_with fail
            go_meet
            case rel => exact ⟨gO, ob, rfl, ((Fx.of_fr hc5).trans hfx9.out).toFr (fun k hk e => by have e : k = ob := e; omega), hC9.out, hMk.out.fx hfx9.out (fun e => hne e), hM1, hA1, hne⟩
        ·
          go_simp
          refine hK.out _ _ (hS0.out _ (Fr.alloc hd0 _)) (fun hHeld => ?_)
          clear hK K
          try simp only [Act.put, List.setIfInBounds_toArray, List.set_cons_zero, List.set_cons_succ]
          obtain ⟨wa11, hW⟩ : ∃ W, W = wd.alloc (.cells #[.int .i64 0, .slice none 0 0] 31) := ⟨_, rfl⟩
          have hfA : Fr wd wa11 := by rw [hW]; exact (Fr.refl _).alloc _
          have ha11 : Fr wo wa11 := Fr.trans hd0 hfA
          obtain ⟨ob, hob⟩ : ∃ ob, ob = wd.heap.size := ⟨_, rfl⟩
          have hAl : Cel2 wa11 ob (.int .i64 0) (.slice none 0 0) := by rw [hW, hob]; exact Cel2.new _ _ _ _
          have hA1 : wo.heap.size ≤ ob := by rw [hob]; exact Fr.size hd0
          (try have hne : gO ≠ ob := by omega)
          rw [← hob, ← hW]
          rw [← hW] at hHeld
          (try replace hMk := hMk.fr hfA)
          (try replace hM2 := Nat.lt_of_lt_of_le hM2 hfA.size)
          clear hW
          replace hob := Lib.hid hob
          refine wpAnyU_ready (rs := [5, 9]) (by kernel_rfl) (by simp) ?_
          refine AllReadyU.cons rfl (fun K hK => ?_) (AllReadyU.cons rfl (fun K hK => ?_) AllReadyU.nil)
          ·
            go_simp
            refine (hfo.out _ ha11).mono ?_
            rintro e wb5 ⟨rfl, hfC⟩
            have hb5 : Fr wo wb5 := Fr.trans ha11 hfC
            (try replace hMk := hMk.fr hfC)
            (try replace hAl := hAl.fr hfC)
            (try replace hM2 := Nat.lt_of_lt_of_le hM2 hfC.size)
            go_wp2_with fail
            refine hK.out _ _ (hS0.out _ hb5) (fun hHeld => ?_)
            clear hK K hfC
            try simp only [Act.put, List.setIfInBounds_toArray, List.set_cons_zero, List.set_cons_succ]
            refine wpAnyU_ready (rs := [9]) (by kernel_rfl) (by simp) ?_
            refine AllReadyU.cons rfl (fun K hK => ?_) AllReadyU.nil
            refine step_make_full _ rfl _ _ 29 rfl wb5.heap.size 3 i4 _ 1 Tryz.underlying29 li lz0 lz1 .i64 .i64 (d : Int) (d : Int) d (by simp [Act.eval]) (by simp [Act.eval]) rfl rfl (by rw [lz2]; omega) (by unfold maxLen; omega) (Nat.le_refl _) ?_
            intro wc9 hownM hgrM
            have hfM : Fr wb5 wc9 := (Fr.refl _).grown hgrM (fun k e => by cases e)
            have hc9 : Fr wo wc9 := Fr.trans hb5 hfM
            rw [made_zero d rfl] at hownM
            (try have hAl9 := hAl.lt)
            obtain ⟨gO, hgO⟩ : ∃ gO, gO = wb5.heap.size := ⟨_, rfl⟩
            rw [← hgO] at hownM ⊢
            have hM1 : wo.heap.size ≤ gO := by rw [hgO]; exact Fr.size hb5
            (try have hne : gO ≠ ob := by omega)
            replace hgO := Lib.hid hgO
            have hMk := (ownsRow_ownI (by omega) (ownsRow_mono (base' := gN) hownM (by have := hgO.out; omega))).1
            have hM2 : gO < wc9.heap.size := (hownM.lt gO rfl).2
            (try replace hAl := hAl.fr hfM)
            refine hK.out _ _ (hS0.out _ hc9) (fun hHeld => ?_)
            clear hK K hownM hgrM
            try simp only [Act.put, List.setIfInBounds_toArray]
            refine wpAnyU_take (i := 10) (v := ?_) rfl (by kernel_rfl) (by decide) (by kernel_rfl) (by kernel_rfl) (by kernel_rfl) (by kernel_rfl) (fun _ _ _ h => h) (Or.inl ⟨by rfl, ?_⟩) (by assumption) ?_
            rotate_left
            · (intro w hSw; (try dsimp only at hSw); go_simp; try (with_reducible rfl))
            change wpAnyU _ _ _ _ _ _ _ _ (Act.put _ (some 70) _) _
            simp only [Act.put]
            have hC9 := Lib.hid ((hAl.set0 (.int .i64 i0)).set1 (.slice (some ⟨gO, 0, none⟩) d d))
            have hfx9 : Hid (Fx (· = ob) wc9 ((wc9.setCell ⟨ob, 0, none⟩ (.int .i64 i0)).setCell ⟨ob, 1, none⟩ (.slice (some ⟨gO, 0, none⟩) d d))) := Fx.setCell (p := (· = ob)) (q := ⟨ob, 1, none⟩) (Fx.setCell (p := (· = ob)) (q := ⟨ob, 0, none⟩) (Fx.refl _ wc9) (.inl rfl) _) (.inl rfl) _
            have x1 := (hAl.set0 (.int .i64 i0)).b
            have x2 := (hAl.set0 (.int .i64 i0)).fb
            obtain ⟨p0, p1, p2, p3⟩ := hAl
            replace hMk := Lib.hid hMk
            clear hHeld
            refine wpAnyU_ready (rs := [12]) (by kernel_rfl) (by simp) ?_
            refine AllReadyU.last rfl (by kernel_rfl) (by kernel_rfl) (fun K hK => ?_)
            go_simp
            refine hK.out _ _ ?_
            clear hK K
            go_wp2_with fail
            go_meet
            case rel => exact ⟨gO, ob, rfl, ((Fx.of_fr hc9).trans hfx9.out).toFr (fun k hk e => by have e : k = ob := e; omega), hC9.out, hMk.out.fx hfx9.out (fun e => hne e), hM1, hA1, hne⟩
          ·
            refine step_make_full _ rfl _ _ 29 rfl wa11.heap.size 3 i4 _ 1 Tryz.underlying29 li lz0 lz1 .i64 .i64 (d : Int) (d : Int) d (by simp [Act.eval]) (by simp [Act.eval]) rfl rfl (by rw [lz2]; omega) (by unfold maxLen; omega) (Nat.le_refl _) ?_
            intro wb9 hownM hgrM
            have hfM : Fr wa11 wb9 := (Fr.refl _).grown hgrM (fun k e => by cases e)
            have hb9 : Fr wo wb9 := Fr.trans ha11 hfM
            rw [made_zero d rfl] at hownM
            (try have hAl9 := hAl.lt)
            obtain ⟨gO, hgO⟩ : ∃ gO, gO = wa11.heap.size := ⟨_, rfl⟩
            rw [← hgO] at hownM ⊢
            have hM1 : wo.heap.size ≤ gO := by rw [hgO]; exact Fr.size ha11
            (try have hne : gO ≠ ob := by omega)
            replace hgO := Lib.hid hgO
            have hMk := (ownsRow_ownI (by omega) (ownsRow_mono (base' := gN) hownM (by have := hgO.out; omega))).1
            have hM2 : gO < wb9.heap.size := (hownM.lt gO rfl).2
            (try replace hAl := hAl.fr hfM)
            refine hK.out _ _ (hS0.out _ hb9) (fun hHeld => ?_)
            clear hK K hownM hgrM
            try simp only [Act.put, List.setIfInBounds_toArray]
            refine wpAnyU_ready (rs := [5]) (by kernel_rfl) (by simp) ?_
            refine AllReadyU.cons rfl (fun K hK => ?_) AllReadyU.nil
            go_simp
            refine (hfo.out _ hb9).mono ?_
            rintro e wc5 ⟨rfl, hfC⟩
            have hc5 : Fr wo wc5 := Fr.trans hb9 hfC
            (try replace hMk := hMk.fr hfC)
            (try replace hAl := hAl.fr hfC)
            (try replace hM2 := Nat.lt_of_lt_of_le hM2 hfC.size)
            go_wp2_with fail
            refine hK.out _ _ (hS0.out _ hc5) (fun hHeld => ?_)
            clear hK K hfC
            try simp only [Act.put, List.setIfInBounds_toArray, List.set_cons_zero, List.set_cons_succ]
            refine wpAnyU_take (i := 10) (v := ?_) rfl (by kernel_rfl) (by decide) (by kernel_rfl) (by kernel_rfl) (by kernel_rfl) (by kernel_rfl) (fun _ _ _ h => h) (Or.inl ⟨by rfl, ?_⟩) (by assumption) ?_
            rotate_left
            · (intro w hSw; (try dsimp only at hSw); go_simp; try (with_reducible rfl))
            change wpAnyU _ _ _ _ _ _ _ _ (Act.put _ (some 70) _) _
            simp only [Act.put, List.setIfInBounds_toArray, List.set_cons_zero, List.set_cons_succ]
            have hC9 := Lib.hid ((hAl.set0 (.int .i64 i0)).set1 (.slice (some ⟨gO, 0, none⟩) d d))
            have hfx9 : Hid (Fx (· = ob) wc5 ((wc5.setCell ⟨ob, 0, none⟩ (.int .i64 i0)).setCell ⟨ob, 1, none⟩ (.slice (some ⟨gO, 0, none⟩) d d))) := Fx.setCell (p := (· = ob)) (q := ⟨ob, 1, none⟩) (Fx.setCell (p := (· = ob)) (q := ⟨ob, 0, none⟩) (Fx.refl _ wc5) (.inl rfl) _) (.inl rfl) _
            have x1 := (hAl.set0 (.int .i64 i0)).b
            have x2 := (hAl.set0 (.int .i64 i0)).fb
            obtain ⟨p0, p1, p2, p3⟩ := hAl
            replace hMk := Lib.hid hMk
            clear hHeld
            refine wpAnyU_ready (rs := [12]) (by kernel_rfl) (by simp) ?_
            refine AllReadyU.last rfl (by kernel_rfl) (by kernel_rfl) (fun K hK => ?_)
            go_simp
            refine hK.out _ _ ?_
            clear hK K
            go_wp2_with fail
            go_meet
            case rel => exact ⟨gO, ob, rfl, ((Fx.of_fr hc5).trans hfx9.out).toFr (fun k hk e => by have e : k = ob := e; omega), hC9.out, hMk.out.fx hfx9.out (fun e => hne e), hM1, hA1, hne⟩
      obtain ⟨gO, ob, rfl, hfc, hO5, hOw, hgo1, hgo2, hgo3⟩ := hcut
      obtain ⟨W5, rfl⟩ : ∃ W5 : World, W5 = wc := ⟨_, rfl⟩
      have f05 := hfc
      have hpc5 : Hid (∀ W, Fr W5 W → ∀ (j : Nat) (u : Value), (flat3 pcs)[j]? = some u → W.cell? ⟨g3, j, none⟩ = some u) := fun W hW j u hj => (f05.trans hW).keep (hpc.out j u hj).1
      have hF5 := hFr.trans f05
      clear n0 n1 k0 hS0 hfo hpc hcw hfc
      replace hOw := Lib.hid hOw
      replace hO5 := Lib.hid hO5
      have f15 := Lib.hid ((f13.trans hf).trans f05)
      have hz5 : Hid (w3.heap.size ≤ gO) := Nat.le_trans hf.size hgo1
      go_wp2_with fail
      go_loopg [14, 73] m (fun k s14 s73 wr => ∃ i : Nat, s73 = .int .i64 i ∧ i + k = m ∧ Fr W5 wr ∧ Hid (wr.ownsRow W5.heap.size 3 1 s14 i ((ats.take i).map fun t : Nat => iv (t : Int))))
      case atStart => exact ⟨0, rfl, by omega, Fr.refl _, World.ownsRow_nil _ _ _ _⟩
      case round =>
        obtain ⟨i, rfl, hik, hf6, hown⟩ := hrel
        obtain ⟨wv, rfl⟩ : ∃ wv : World, wv = wr := ⟨_, rfl⟩
        obtain ⟨kv, rfl⟩ : ∃ kv : Nat, kv = gk := ⟨_, rfl⟩
        by_cases hi : i < m
        · have hdI : decide (i < m) = true := decide_eq_true hi
          obtain ⟨p, hp⟩ : ∃ p, pcs[i]? = some p := ⟨_, List.getElem?_eq_getElem (by rw [hpl.out]; exact hi)⟩
          obtain ⟨t, ht⟩ : ∃ t, ats[i]? = some t := ⟨_, List.getElem?_eq_getElem (by rw [hal.out]; exact hi)⟩
          obtain ⟨c0, c1, c2⟩ := flat3_at pcs i p hp
          replace c0 := hpc5.out _ hf6 _ _ c0
          replace c1 := hpc5.out _ hf6 _ _ c1
          replace c2 := hpc5.out _ hf6 _ _ c2
          have hfA1 := Lib.hid (fun W (hW : Fr wv W) => hfa.out i p t hp ht W ((hF5.trans hf6).trans hW))
          have hsn : Hid ((ats.take (i + 1)).map (fun t : Nat => iv (t : Int)) = (ats.take i).map (fun t : Nat => iv (t : Int)) ++ [iv (t : Int)]) := by show _ = _; rw [take_snoc ht, List.map_append]; rfl
          obtain ⟨pn, hpn⟩ : ∃ pn, pn = p.nm := ⟨_, rfl⟩
          obtain ⟨pg, hpg⟩ : ∃ pg, pg = p.ng := ⟨_, rfl⟩
          obtain ⟨pd, hpd⟩ : ∃ pd, pd = tx p.k := ⟨_, rfl⟩
          rw [← hpn] at c0 hfA1
          rw [← hpg] at c1
          rw [← hpd] at c2
          replace hpn := Lib.hid hpn
          replace hpg := Lib.hid hpg
          replace hpd := Lib.hid hpd
          replace hp := Lib.hid hp
          replace ht := Lib.hid ht
          have z0 : (0 : Int) ≤ (i : Int) := Int.natCast_nonneg _
          have z1 : (i : Int) < (m : Int) := by omega
          obtain ⟨W6, hW6⟩ : ∃ W6, W6 = wv.alloc (.cells #[.string pn, .bool pg, .string pd] 84) := ⟨_, rfl⟩
          have f6 : Fr wv W6 := by rw [hW6]; exact (Fr.refl _).alloc _
          obtain ⟨qb, hqb⟩ : ∃ qb, qb = wv.heap.size := ⟨_, rfl⟩
          have hP6 : Cel3 W6 qb (.string pn) (.bool pg) (.string pd) := by rw [hW6, hqb]; exact Cel3.new _ _ _ _ _
          go_upto_region 23 with (fail)
          rw [← hW6, ← hqb]
          clear hW6 c0 c1 c2
          replace hqb := Lib.hid hqb
          have m0 := hP6.a
          have n1 := (hf6.trans f6).keep (f15.out.keep hN1.out.b)
          have hz7 := hf6.size
          have hz8 := f6.size
          go_wp2_with fail
          refine (hfA1.out _ f6).mono ?_
          rintro e wC ⟨rfl, hfC⟩
          have hownG := ownsRow_fr hown.out (f6.trans hfC)
          have hz9 := hfC.size
          go_wp2_with (at_builtin; refine wpList_append_lies _ rfl _ _ 28 (by rfl) _ 3 _ _ 1 8 Tryz.underlying28 li lz0 lz1 lz2 rfl (by decide) _ i _ (by rfl) (World.ownsRow.alloc hownG _) ⟨wC.heap.size, 0, none⟩ 1 1 [.int .i64 t] (by rfl) rfl (cell_one_newN _ _ _ _ (by simp)) (by simp [Value.oneCell']) (by decide) (by unfold maxLen; omega) (by omega) (by skip; simp; omega) (wC.heap.size + 1) (by simp) ?_; intro gA capA wA hownA hgrowA hatA hltA)
          go_wp2_with fail
          go_roundg (kv - 1)
          case measure => omega
          case rel => exact ⟨i + 1, by go_num, by omega, (((hf6.trans f6).trans hfC).alloc _).grown hgrowA (fun k e => (hown.out.lt k e).1), by show World.ownsRow _ _ _ _ _ _ _; rw [hsn.out]; exact hownA⟩
        · have hdI : decide (i < m) = false := decide_eq_false hi
          obtain rfl : m = i := by omega
          have hown9 := hown.out
          rw [List.take_of_length_le (by rw [hal.out]; exact Nat.le_refl _)] at hown9
          obtain ⟨g4, c4, rfl, -⟩ := World.ownsRow.form hown9 hm1
          obtain ⟨-, -, hg4, -, hac⟩ := ownsRow_some hown9
          have hg4b0 := Lib.hid (hown9.lt g4 rfl).1
          have hatc : Hid (∀ (j t : Nat), ats[j]? = some t → wv.cell? ⟨g4, j, none⟩ = some (.int .i64 t)) := fun j t hj => (hac j (iv (t : Int)) (by rw [List.getElem?_map, hj]; rfl)).1
          have hcon := Lib.hid (fun W (hW : Fr wv W) => Tryz.slices_Contains_int g4 0 m c4 (ats.map fun t : Nat => (t : Int)) (-1) W (by rw [List.length_map, hal.out]; exact Nat.le_refl _) (by omega) (fun j hj => by
            rw [List.length_map] at hj
            have := hW.keep (hatc.out j ats[j] (List.getElem?_eq_getElem hj))
            rw [Nat.zero_add, this, List.getD_eq_getElem?_getD, List.getElem?_map, List.getElem?_eq_getElem hj]; rfl))
          have hcf : ((ats.map fun t : Nat => (t : Int)).take m).contains (-1) = false := by
            rw [List.contains_eq_any_beq, List.any_eq_false]
            intro x hx
            obtain ⟨t, -, rfl⟩ := List.mem_map.1 (List.mem_of_mem_take hx)
            simp
          rw [hcf] at hcon
          have o0 := hf6.keep hO5.out.a
          have di : decide ((i0 : Int) < 0) = false := decide_eq_false (by omega)
          clear hown9 hac hcf hown
          go_wp2_with fail
          refine (hcon.out _ (Fr.refl _)).mono ?_
          rintro e wC ⟨rfl, rfl⟩
          go_wp2_with fail
          go_loopg [17] (m - 1) (fun k s17 wr => ∃ i : Nat, s17 = .int .i64 ((i + 1 : Nat) : Int) ∧ i + 1 + k = m ∧ Fr wC wr)
          case atStart => exact ⟨0, rfl, by omega, Fr.refl _⟩
          case round =>
            obtain ⟨i, rfl, hik, hf7⟩ := hrel
            obtain ⟨wx, rfl⟩ : ∃ wx : World, wx = wr := ⟨_, rfl⟩
            obtain ⟨kx, rfl⟩ : ∃ kx : Nat, kx = gk := ⟨_, rfl⟩
            by_cases hi : i + 1 < m
            · have hdI : decide ((i + 1 : Nat) < m) = true := decide_eq_true hi
              have hdI2 : decide (((i + 1 : Nat) : Int) < (m : Int)) = true := decide_eq_true (by omega)
              obtain ⟨t, ht⟩ : ∃ t, ats[i]? = some t := ⟨_, List.getElem?_eq_getElem (by rw [hal.out]; omega)⟩
              obtain ⟨u, hu⟩ : ∃ u, ats[i + 1]? = some u := ⟨_, List.getElem?_eq_getElem (by rw [hal.out]; omega)⟩
              have htu := hinc.out i t u ht hu
              have c1 := hf7.keep (hatc.out i t ht)
              have c2 := hf7.keep (hatc.out (i + 1) u hu)
              have dl : decide ((u : Int) ≤ (t : Int)) = false := decide_eq_false (by omega)
              have hw1 : IntKind.i64.wrap (((i + 1 : Nat) : Int) - 1) = (i : Int) := by rw [show ((i + 1 : Nat) : Int) - 1 = (i : Int) by omega]; exact IntWalk.i64_in _ (by omega)
              have z0 : (0 : Int) ≤ (i : Int) := Int.natCast_nonneg _
              have z1 : (i : Int) < (m : Int) := by omega
              have z2 : (0 : Int) ≤ ((i + 1 : Nat) : Int) := Int.natCast_nonneg _
              have z3 : ((i + 1 : Nat) : Int) < (m : Int) := by omega
              replace ht := Lib.hid ht
              replace hu := Lib.hid hu
              go_wp2_with fail
              go_quiet (fail)
              go_wp2_with fail
              go_roundg (kx - 1)
              case measure => omega
              case rel => exact ⟨i + 1, by go_num, by omega, hf7.drewN _⟩
            · have hdI : decide (((i + 1 : Nat) : Int) < (m : Int)) = false := decide_eq_false (by omega)
              have hdI2 : decide ((i + 1 : Nat) < m) = false := decide_eq_false (by omega)
              go_wp2_with fail
              have hf8 : Fr W5 wx := hf6.trans hf7
              have hOwx := Lib.hid (hOw.fr hf8)
              have hatx : Hid (∀ (j t : Nat), ats[j]? = some t → wx.cell? ⟨g4, j, none⟩ = some (.int .i64 t)) := fun j t hj => hf7.keep (hatc.out j t hj)
              have hO8 := Lib.hid (hO5.out.fr hf8)
              have hFx := Lib.hid (hF5.trans hf8)
              have hgo9 : gO < wx.heap.size := hOwx.out.2.1
              have hcx := Lib.hid (fun (j : Nat) (u : Value) (hj : (flat3 pcs)[j]? = some u) => hpc5.out wx hf8 j u hj)
              have hg4b : Hid (g4 ≠ gO) := fun e => by have h1 := hg4b0.out; have h2 := hOw.2.1; omega
              have hg3b : Hid (g3 ≠ gO) := fun e => by omega
              clear hcon o0 di hatc
              go_loopg [113] m (fun k s113 wr => ∃ i : Nat, s113 = .int .i64 i ∧ i + k = m ∧ Fx (· = gO) wx wr ∧ Hid (OwnI wr gO 0 (cntT pcs ats d i)))
              case atStart => exact ⟨0, rfl, by omega, Fx.refl _ _, hOwx.out⟩
              case round =>
                clear hOwx
                obtain ⟨i, rfl, hik, hfx, hOi⟩ := hrel
                obtain ⟨wy, rfl⟩ : ∃ wy : World, wy = wr := ⟨_, rfl⟩
                obtain ⟨ky, rfl⟩ : ∃ ky : Nat, ky = gk := ⟨_, rfl⟩
                by_cases hi : i < m
                · have hdI : decide (i < m) = true := decide_eq_true hi
                  obtain ⟨p, hp⟩ : ∃ p, pcs[i]? = some p := ⟨_, List.getElem?_eq_getElem (by rw [hpl.out]; exact hi)⟩
                  obtain ⟨t, ht⟩ : ∃ t, ats[i]? = some t := ⟨_, List.getElem?_eq_getElem (by rw [hal.out]; exact hi)⟩
                  obtain ⟨c0, c1, c2⟩ := flat3_at pcs i p hp
                  replace c0 := hfx.keep (hcx.out _ _ c0) hg3b.out
                  replace c1 := hfx.keep (hcx.out _ _ c1) hg3b.out
                  replace c2 := hfx.keep (hcx.out _ _ c2) hg3b.out
                  have htd := hta.out i p t hp ht
                  obtain ⟨k1, k2⟩ := hk.out p (List.mem_of_getElem? hp)
                  have hcs : cntT pcs ats d (i + 1) = (cntT pcs ats d i).set t p.val := by rw [cntT, hp, ht]
                  have a4 := hfx.keep (hatx.out i t ht) hg4b.out
                  have a5 := hfx.keep hO8.out.b (fun e => hgo3 (by have e : ob = gO := e; exact e.symm))
                  obtain ⟨z, hz⟩ : ∃ z, (cntT pcs ats d i)[t]? = some z := ⟨_, List.getElem?_eq_getElem (by rw [hcn.out]; exact htd)⟩
                  obtain ⟨x1, x2⟩ := hOi.out.2.2 t z hz
                  rw [Nat.zero_add] at x1 x2
                  have hGm := Lib.hid (fun W (hW : Fr wy W) => atoi_any p.k (by omega) (by omega) W)
                  obtain ⟨pn, hpn⟩ : ∃ pn, pn = p.nm := ⟨_, rfl⟩
                  obtain ⟨pg, hpg⟩ : ∃ pg, pg = p.ng := ⟨_, rfl⟩
                  obtain ⟨pd, hpd⟩ : ∃ pd, pd = tx p.k := ⟨_, rfl⟩
                  obtain ⟨pk, hpk⟩ : ∃ pk, pk = p.k := ⟨_, rfl⟩
                  have hval : p.val = if pg then -pk else pk := by unfold Pc.val; rw [hpg, hpk]
                  rw [← hpn] at c0
                  rw [← hpg] at c1
                  rw [← hpd] at c2 hGm
                  rw [← hpk] at k1 k2 hGm
                  rw [hval] at hcs
                  replace hval := Lib.hid hval
                  replace hpn := Lib.hid hpn
                  replace hpg := Lib.hid hpg
                  replace hpd := Lib.hid hpd
                  replace hpk := Lib.hid hpk
                  replace hp := Lib.hid hp
                  replace ht := Lib.hid ht
                  replace hz := Lib.hid hz
                  have z0 : (0 : Int) ≤ (i : Int) := Int.natCast_nonneg _
                  have z1 : (i : Int) < (m : Int) := by omega
                  have z2 : (0 : Int) ≤ (t : Int) := Int.natCast_nonneg _
                  have z3 : (t : Int) < (d : Int) := by omega
                  have dk : decide ((1000000000 : Int) < pk) = false := decide_eq_false (by omega)
                  have hnw : IntKind.i64.wrap (-pk) = -pk := IntWalk.i64_in _ (by omega)
                  obtain ⟨W6, hW6⟩ : ∃ W6, W6 = wy.alloc (.cells #[.string pn, .bool pg, .string pd] 84) := ⟨_, rfl⟩
                  have f6 : Fr wy W6 := by rw [hW6]; exact (Fr.refl _).alloc _
                  obtain ⟨qb, hqb⟩ : ∃ qb, qb = wy.heap.size := ⟨_, rfl⟩
                  have hP6 : Cel3 W6 qb (.string pn) (.bool pg) (.string pd) := by rw [hW6, hqb]; exact Cel3.new _ _ _ _ _
                  go_upto_region 35 with (fail)
                  rw [← hW6, ← hqb]
                  clear hW6 c0 c1 c2
                  replace hqb := Lib.hid hqb
                  have m1 := hP6.b
                  have m2 := hP6.c
                  go_wp2_with fail
                  refine (hGm.out _ f6).mono ?_
                  rintro e wA ⟨rfl, hfA⟩
                  have hfy : Fr wy wA := f6.trans hfA
                  replace m1 := hfA.keep m1
                  clear m2 hGm
                  have b4 := hfy.keep a4
                  have b5 := hfy.keep a5
                  have bx := hfy.keep x1
                  have bf := hfy.keepf x1 x2
                  have hOA := Lib.hid (hOi.out.fr hfy)
                  have hS0 := Lib.hid (fun W' (hW' : Fr wA W') => (⟨hW'.keep b5, hW'.keep b4⟩ : W'.cell? ⟨ob, 1, none⟩ = some (.slice (some ⟨gO, 0, none⟩) d d) ∧ W'.cell? ⟨g4, i, none⟩ = some (.int .i64 t)))
                  have hd8 : Fr wA wA.drew := (Fr.refl wA).drew
                  clear a4 a5 x1 x2
                  cases pg with
                  | true =>
                    go_wp2_with fail
                    refine wp_region_U (S := fun W' => W'.cell? ⟨ob, 1, none⟩ = some (.slice (some ⟨gO, 0, none⟩) d d) ∧ W'.cell? ⟨g4, i, none⟩ = some (.int .i64 t)) 8 (by kernel_rfl) (hS0.out _ hd8) (fun hHeld => ?_)
                    refine wpAnyU_take (i := 0) (v := ?_) rfl (by kernel_rfl) (by decide) (by kernel_rfl) (by kernel_rfl) (by kernel_rfl) (by kernel_rfl) (fun _ _ _ h => h) (Or.inl ⟨by rfl, ?_⟩) (by assumption) ?_
                    rotate_left
                    · (intro w hSw; (try dsimp only at hSw); go_simp; try (with_reducible rfl))
                    change wpAnyU _ _ _ _ _ _ _ _ (Act.put _ (some 135) _) _
                    simp only [Act.put, List.setIfInBounds_toArray, List.set_cons_zero, List.set_cons_succ]
                    refine wpAnyU_take (i := 1) (v := ?_) rfl (by kernel_rfl) (by decide) (by kernel_rfl) (by kernel_rfl) (by kernel_rfl) (by kernel_rfl) (fun _ _ _ h => h) (Or.inl ⟨by rfl, ?_⟩) (by assumption) ?_
                    rotate_left
                    · (intro w hSw; (try dsimp only at hSw); go_simp; try (with_reducible rfl))
                    change wpAnyU _ _ _ _ _ _ _ _ (Act.put _ (some 136) _) _
                    simp only [Act.put, List.setIfInBounds_toArray, List.set_cons_zero, List.set_cons_succ]
                    refine wpAnyU_take (i := 2) (v := ?_) rfl (by kernel_rfl) (by decide) (by kernel_rfl) (by kernel_rfl) (by kernel_rfl) (by kernel_rfl) (fun _ _ _ h => h) (Or.inl ⟨by rfl, ?_⟩) (by assumption) ?_
                    rotate_left
                    · (intro w hSw; (try dsimp only at hSw); go_simp; try (with_reducible rfl))
                    change wpAnyU _ _ _ _ _ _ _ _ (Act.put _ (some 137) _) _
                    simp only [Act.put, List.setIfInBounds_toArray, List.set_cons_zero, List.set_cons_succ]
                    refine wpAnyU_take (i := 3) (v := ?_) rfl (by kernel_rfl) (by decide) (by kernel_rfl) (by kernel_rfl) (by kernel_rfl) (by kernel_rfl) (fun _ _ _ h => h) (Or.inl ⟨by rfl, ?_⟩) (by assumption) ?_
                    rotate_left
                    · (intro w hSw; (try dsimp only at hSw); go_simp; try (with_reducible rfl))
                    change wpAnyU _ _ _ _ _ _ _ _ (Act.put _ (some 138) _) _
                    simp only [Act.put, List.setIfInBounds_toArray, List.set_cons_zero, List.set_cons_succ]
                    refine wpAnyU_take (i := 4) (v := ?_) rfl (by kernel_rfl) (by decide) (by kernel_rfl) (by kernel_rfl) (by kernel_rfl) (by kernel_rfl) (fun _ _ _ h => h) (Or.inl ⟨by rfl, ?_⟩) (by assumption) ?_
                    rotate_left
                    · (intro w hSw; (try dsimp only at hSw); go_simp; try (with_reducible rfl))
                    change wpAnyU _ _ _ _ _ _ _ _ (Act.put _ (some 139) _) _
                    simp only [Act.put, List.setIfInBounds_toArray, List.set_cons_zero, List.set_cons_succ]
                    refine wpAnyU_take (i := 5) (v := ?_) rfl (by kernel_rfl) (by decide) (by kernel_rfl) (by kernel_rfl) (by kernel_rfl) (by kernel_rfl) (fun _ _ _ h => h) (Or.inl ⟨by rfl, ?_⟩) (by assumption) ?_
                    rotate_left
                    · (intro w hSw; (try dsimp only at hSw); go_simp; try (with_reducible rfl))
                    change wpAnyU _ _ _ _ _ _ _ _ (Act.put _ (some 140) _) _
                    simp only [Act.put, List.setIfInBounds_toArray, List.set_cons_zero, List.set_cons_succ]
                    refine wpAnyU_take (i := 6) (v := ?_) rfl (by kernel_rfl) (by decide) (by kernel_rfl) (by kernel_rfl) (by kernel_rfl) (by kernel_rfl) (fun _ _ _ h => h) (Or.inl ⟨by rfl, ?_⟩) (by assumption) ?_
                    rotate_left
                    · (intro w hSw; (try dsimp only at hSw); go_simp; try (with_reducible rfl))
                    change wpAnyU _ _ _ _ _ _ _ _ (Act.put _ (some 141) _) _
                    simp only [Act.put, List.setIfInBounds_toArray, List.set_cons_zero, List.set_cons_succ]
                    refine wpAnyU_take (i := 7) (v := ?_) rfl (by kernel_rfl) (by decide) (by kernel_rfl) (by kernel_rfl) (by kernel_rfl) (by kernel_rfl) (fun _ _ _ h => h) (Or.inl ⟨by rfl, ?_⟩) (by assumption) ?_
                    rotate_left
                    · (intro w hSw; (try dsimp only at hSw); go_simp; try (with_reducible rfl))
                    change wpAnyU _ _ _ _ _ _ _ _ (Act.put _ (some 142) _) _
                    simp only [Act.put, List.setIfInBounds_toArray, List.set_cons_zero, List.set_cons_succ]
                    have y1 := hd8.keep bx
                    have y2 := hd8.keepf bx bf
                    clear hHeld
                    refine wpAnyU_ready (rs := [8]) (by kernel_rfl) (by simp) ?_
                    refine AllReadyU.last rfl (by kernel_rfl) (by kernel_rfl) (fun K hK => ?_)
                    go_simp
                    refine hK.out _ _ ?_
                    clear hK K
                    have hO9 := (hOA.out.fr hd8).set (k := t) (by rw [hcn.out]; exact htd) (-pk)
                    rw [Nat.zero_add] at hO9
                    have hfx9 : Fx (· = gO) wx (wA.drew.setCell ⟨gO, t, none⟩ (.int .i64 (-pk))) := ((hfx.fr hfy).fr hd8).setCell (q := ⟨gO, t, none⟩) (.inl rfl) _
                    replace hO9 := Lib.hid hO9
                    go_wp2_with fail
                    go_roundg (ky - 1)
                    case measure => omega
                    case rel => exact ⟨i + 1, by go_num, by omega, hfx9, by show OwnI _ _ _ _; rw [hcs]; exact hO9.out⟩
                  | false =>
                    go_wp2_with fail
                    refine wp_region_U (S := fun W' => W'.cell? ⟨ob, 1, none⟩ = some (.slice (some ⟨gO, 0, none⟩) d d) ∧ W'.cell? ⟨g4, i, none⟩ = some (.int .i64 t)) 8 (by kernel_rfl) (hS0.out _ hd8) (fun hHeld => ?_)
                    refine wpAnyU_take (i := 0) (v := ?_) rfl (by kernel_rfl) (by decide) (by kernel_rfl) (by kernel_rfl) (by kernel_rfl) (by kernel_rfl) (fun _ _ _ h => h) (Or.inl ⟨by rfl, ?_⟩) (by assumption) ?_
                    rotate_left
                    · (intro w hSw; (try dsimp only at hSw); go_simp; try (with_reducible rfl))
                    change wpAnyU _ _ _ _ _ _ _ _ (Act.put _ (some 135) _) _
                    simp only [Act.put, List.setIfInBounds_toArray, List.set_cons_zero, List.set_cons_succ]
                    refine wpAnyU_take (i := 1) (v := ?_) rfl (by kernel_rfl) (by decide) (by kernel_rfl) (by kernel_rfl) (by kernel_rfl) (by kernel_rfl) (fun _ _ _ h => h) (Or.inl ⟨by rfl, ?_⟩) (by assumption) ?_
                    rotate_left
                    · (intro w hSw; (try dsimp only at hSw); go_simp; try (with_reducible rfl))
                    change wpAnyU _ _ _ _ _ _ _ _ (Act.put _ (some 136) _) _
                    simp only [Act.put, List.setIfInBounds_toArray, List.set_cons_zero, List.set_cons_succ]
                    refine wpAnyU_take (i := 2) (v := ?_) rfl (by kernel_rfl) (by decide) (by kernel_rfl) (by kernel_rfl) (by kernel_rfl) (by kernel_rfl) (fun _ _ _ h => h) (Or.inl ⟨by rfl, ?_⟩) (by assumption) ?_
                    rotate_left
                    · (intro w hSw; (try dsimp only at hSw); go_simp; try (with_reducible rfl))
                    change wpAnyU _ _ _ _ _ _ _ _ (Act.put _ (some 137) _) _
                    simp only [Act.put, List.setIfInBounds_toArray, List.set_cons_zero, List.set_cons_succ]
                    refine wpAnyU_take (i := 3) (v := ?_) rfl (by kernel_rfl) (by decide) (by kernel_rfl) (by kernel_rfl) (by kernel_rfl) (by kernel_rfl) (fun _ _ _ h => h) (Or.inl ⟨by rfl, ?_⟩) (by assumption) ?_
                    rotate_left
                    · (intro w hSw; (try dsimp only at hSw); go_simp; try (with_reducible rfl))
                    change wpAnyU _ _ _ _ _ _ _ _ (Act.put _ (some 138) _) _
                    simp only [Act.put, List.setIfInBounds_toArray, List.set_cons_zero, List.set_cons_succ]
                    refine wpAnyU_take (i := 4) (v := ?_) rfl (by kernel_rfl) (by decide) (by kernel_rfl) (by kernel_rfl) (by kernel_rfl) (by kernel_rfl) (fun _ _ _ h => h) (Or.inl ⟨by rfl, ?_⟩) (by assumption) ?_
                    rotate_left
                    · (intro w hSw; (try dsimp only at hSw); go_simp; try (with_reducible rfl))
                    change wpAnyU _ _ _ _ _ _ _ _ (Act.put _ (some 139) _) _
                    simp only [Act.put, List.setIfInBounds_toArray, List.set_cons_zero, List.set_cons_succ]
                    refine wpAnyU_take (i := 5) (v := ?_) rfl (by kernel_rfl) (by decide) (by kernel_rfl) (by kernel_rfl) (by kernel_rfl) (by kernel_rfl) (fun _ _ _ h => h) (Or.inl ⟨by rfl, ?_⟩) (by assumption) ?_
                    rotate_left
                    · (intro w hSw; (try dsimp only at hSw); go_simp; try (with_reducible rfl))
                    change wpAnyU _ _ _ _ _ _ _ _ (Act.put _ (some 140) _) _
                    simp only [Act.put, List.setIfInBounds_toArray, List.set_cons_zero, List.set_cons_succ]
                    refine wpAnyU_take (i := 6) (v := ?_) rfl (by kernel_rfl) (by decide) (by kernel_rfl) (by kernel_rfl) (by kernel_rfl) (by kernel_rfl) (fun _ _ _ h => h) (Or.inl ⟨by rfl, ?_⟩) (by assumption) ?_
                    rotate_left
                    · (intro w hSw; (try dsimp only at hSw); go_simp; try (with_reducible rfl))
                    change wpAnyU _ _ _ _ _ _ _ _ (Act.put _ (some 141) _) _
                    simp only [Act.put, List.setIfInBounds_toArray, List.set_cons_zero, List.set_cons_succ]
                    refine wpAnyU_take (i := 7) (v := ?_) rfl (by kernel_rfl) (by decide) (by kernel_rfl) (by kernel_rfl) (by kernel_rfl) (by kernel_rfl) (fun _ _ _ h => h) (Or.inl ⟨by rfl, ?_⟩) (by assumption) ?_
                    rotate_left
                    · (intro w hSw; (try dsimp only at hSw); go_simp; try (with_reducible rfl))
                    change wpAnyU _ _ _ _ _ _ _ _ (Act.put _ (some 142) _) _
                    simp only [Act.put, List.setIfInBounds_toArray, List.set_cons_zero, List.set_cons_succ]
                    have y1 := hd8.keep bx
                    have y2 := hd8.keepf bx bf
                    clear hHeld
                    refine wpAnyU_ready (rs := [8]) (by kernel_rfl) (by simp) ?_
                    refine AllReadyU.last rfl (by kernel_rfl) (by kernel_rfl) (fun K hK => ?_)
                    go_simp
                    refine hK.out _ _ ?_
                    clear hK K
                    have hO9 := (hOA.out.fr hd8).set (k := t) (by rw [hcn.out]; exact htd) (pk)
                    rw [Nat.zero_add] at hO9
                    have hfx9 : Fx (· = gO) wx (wA.drew.setCell ⟨gO, t, none⟩ (.int .i64 (pk))) := ((hfx.fr hfy).fr hd8).setCell (q := ⟨gO, t, none⟩) (.inl rfl) _
                    replace hO9 := Lib.hid hO9
                    go_wp2_with fail
                    go_roundg (ky - 1)
                    case measure => omega
                    case rel => exact ⟨i + 1, by go_num, by omega, hfx9, by show OwnI _ _ _ _; rw [hcs]; exact hO9.out⟩
                · have hdI : decide (i < m) = false := decide_eq_false hi
                  obtain rfl : m = i := by omega
                  have a5 := hfx.keep hO8.out.a (fun e => hgo3 (by have e : ob = gO := e; exact e.symm))
                  have a6 := hfx.keep hO8.out.b (fun e => hgo3 (by have e : ob = gO := e; exact e.symm))
                  have hSx : Cel2 wx (nb + 1) (.int .i64 0) (.slice none 0 0) := (hS1.out.fr f15.out).fr hf8
                  have hS9 := hSx.fx hfx (fun e => by have e : nb + 1 = gO := e; have := (hS1.out.fr (f13.trans hf)).lt; omega)
                  have hS10 := Lib.hid ((hS9.set0 (.int .i64 i0)).set1 (.slice (some ⟨gO, 0, none⟩) d d))
                  have hfx10 : Hid (Fx (· = nb + 1) wy ((wy.setCell ⟨nb + 1, 0, none⟩ (.int .i64 i0)).setCell ⟨nb + 1, 1, none⟩ (.slice (some ⟨gO, 0, none⟩) d d))) := Fx.setCell (p := (· = nb + 1)) (q := ⟨nb + 1, 1, none⟩) (Fx.setCell (p := (· = nb + 1)) (q := ⟨nb + 1, 0, none⟩) (Fx.refl _ wy) (.inl rfl) _) (.inl rfl) _
                  have x1 := (hS9.set0 (.int .i64 i0)).b
                  have x2 := (hS9.set0 (.int .i64 i0)).fb
                  have hlt9 : nb + 1 < wo.heap.size := (hS1.out.fr (f13.trans hf)).lt
                  obtain ⟨b0, b1, e0, e1⟩ := hS9
                  go_wp2_with fail
                  have q0 := hS10.out.a
                  have q1 := hS10.out.b
                  refine bodyPost_ret (v := .tuple #[.agg #[.int .i64 i0, .slice (some ⟨gO, 0, none⟩) d d], .int .i64 0]) (by simp [results, Tryz.results14, go_sem, q0, q1]) rfl ?_
                  exact ⟨gO, d, rfl, hOi.out.el.fx hfx10.out (fun e => by have e : gO = nb + 1 := e; omega), hcn.out m, by
                    have h1 : Fx (fun k => k = gO) w wy := (Fx.of_fr hFx.out).trans hfx
                    have h2 : Fr w wy := h1.toFr (fun k hk e => by have e : k = gO := e; have := hFr.size; omega)
                    exact ((Fx.of_fr h2).trans hfx10.out).toFr (fun k hk e => by have e : k = nb + 1 := e; have := hnb.out; omega)⟩
end Go.Proofs.YtamffndlpminmaaGreatDoor

/- notation.Parse of a name alone. -/
namespace Go.Proofs.YtamffndlpminmaaGreatDoor
open Go.RowKit Go.Lib
attribute [local go_sem ↓] Go.wp_at_zero Go.wp_at_succ

set_option maxRecDepth 100000 in
set_option maxHeartbeats 16000000 in
theorem Parse_zero (N A : List Sy) (d i0 : Nat) (s w0 : ByteArray) (aN aA : Option Addr) (cN cA : Nat) (w : World) (hG : G w) (hmx : ∃ m, w.cell? ⟨3, 0, none⟩ = some (.int .i64 m)) (hn : NotIs w aN aA cA N A) (lenA : A.length = d) (d6 : d ≤ 6) (n60 : N.length ≤ 60)
    (hsz : s.size ≤ 65536) (hspl : Lib.splitB ⟨#[32]⟩ 0 (Lib.countB s ⟨#[32]⟩) s = [w0]) (hcnt : Lib.countB s ⟨#[32]⟩ = 0) (hw0s : w0.size ≤ 1000) (hw0 : isName w0 = true)
    (hN : idx (fun y : Sy => y.nm.toList == w0.toList) N = i0)
    (hck : ∀ W, Fr w W → Calls Tryz.prog 25 #[.agg #[.slice aN N.length cN, .slice aA A.length cA]] W fun e w' => e = .returned (.int .i64 0) ∧ Fr W w') :
    Calls Tryz.prog 14 #[.agg #[.slice aN N.length cN, .slice aA A.length cA], .string s] w (SpRet w i0 (List.replicate d 0) d) := by
  have hgn := gN_le hG
  obtain ⟨i3, ki, kz0, kz1, kz2⟩ := info_parts infoPc
  obtain ⟨i4, li, lz0, lz1, lz2⟩ := info_parts infoInt
  obtain ⟨mx, hmx⟩ := hmx
  rw [lenA] at hck ⊢
  obtain ⟨M, hM⟩ : ∃ M, M = N.length := ⟨_, rfl⟩
  rw [← hM] at n60 hck ⊢
  have hsp := Lib.hid (fun W (hW : Fr w W) => Tryz.strings_Split s ⟨#[32]⟩ mx W (by omega) (hW.keep hmx) (by decide))
  rw [hspl, hcnt] at hsp
  have hfn := Lib.hid (fun W (hW : Fr w W) => Find_any N aN cN M w0 W (hn.noms.fr hW) hM.symm (by omega))
  rw [hN] at hfn
  have hin := Lib.hid (fun W : World => IsName_any w0 W (by omega))
  rw [hw0] at hin
  replace hck := Lib.hid hck
  replace hM := Lib.hid hM
  clear hG hmx hn lenA hspl hcnt hw0 hN
  obtain ⟨nb, hnb⟩ : ∃ nb, nb = w.heap.size := ⟨_, rfl⟩
  obtain ⟨W1, hW1⟩ : ∃ W1, W1 = (w.alloc (.cells #[.slice aN M cN, .slice aA d cA] 34)).alloc (.cells #[.int .i64 0, .slice none 0 0] 31) := ⟨_, rfl⟩
  have f1 : Fr w W1 := by rw [hW1]; exact ((Fr.refl _).alloc _).alloc _
  have hN1 : Cel2 W1 nb (.slice aN M cN) (.slice aA d cA) := by rw [hW1, hnb]; exact (Cel2.new w _ _ _).fr ((Fr.refl _).alloc _)
  have hS1 : Cel2 W1 (nb + 1) (.int .i64 0) (.slice none 0 0) := by
    have := Cel2.new (w.alloc (.cells #[.slice aN M cN, .slice aA d cA] 34)) (.int .i64 0) (.slice none 0 0) 31
    rw [World.size_alloc] at this
    rw [hW1, hnb]; exact this
  go_enter Tryz.func14, Tryz.ntmps14
  go_upto_region 1 with (fail)
  rw [← hW1, ← hnb]
  clear hW1
  replace hnb := Lib.hid hnb
  have n0 := hN1.a
  have n1' := hN1.b
  replace hN1 := Lib.hid hN1
  replace hS1 := Lib.hid hS1
  go_wp2_with fail
  refine (hck.out _ f1).mono ?_
  rintro e w2 ⟨rfl, hf2⟩
  have f2 := f1.trans hf2
  have dz : decide ((65536 : Int) < (s.size : Int)) = false := decide_eq_false (by omega)
  clear n0 n1'
  go_wp2_with fail
  refine (hsp.out _ f2).mono ?_
  rintro e w3 ⟨rfl, hw3⟩
  have hcw : ∀ (i : Nat) (x : ByteArray), [w0][i]? = some x → w3.cell? ⟨w2.heap.size, i, none⟩ = some (.string x) := fun i x hx => by
    rw [hw3]
    have h : (w2.alloc (.cells ([w0].map Value.string).toArray 9)).heap[w2.heap.size]? = some (.cells ([w0].map Value.string).toArray 9 (0, 0)) := heap_alloc_new w2 _
    unfold World.cell?
    rw [h]
    show ([w0].map Value.string).toArray[i]? = _
    rw [List.getElem?_toArray, List.getElem?_map, hx]; rfl
  have f23 : Fr w2 w3 := by rw [hw3]; exact (Fr.refl _).alloc _
  have f3 := f2.trans f23
  have f13 := hf2.trans f23
  obtain ⟨wb, hwb⟩ : ∃ wb, wb = w2.heap.size := ⟨_, rfl⟩
  rw [← hwb] at hcw ⊢
  replace hwb := Lib.hid hwb
  have k0 := hcw 0 w0 rfl
  replace hcw := Lib.hid hcw
  clear hw3 hsp hck
  have zm : (0 : Int) < ((0 + 1 : Nat) : Int) := by omega
  go_wp2_with fail
  refine (hin.out _).mono ?_
  rintro e w4 ⟨rfl, rfl⟩
  go_wp2_with fail
  refine wp_loop_rounds 1 ?_
  rw [rounds_succ]
  obtain ⟨wo, rfl⟩ : ∃ wo : World, wo = w3 := ⟨_, rfl⟩
  have hf : Fr wo wo := Fr.refl wo
  have hFr := f3
  clear k0
  have n0 := hf.keep (f13.keep hN1.out.a)
  have n1 := hf.keep (f13.keep hN1.out.b)
  have k0 := hf.keep (hcw.out 0 w0 rfl)
  have hfo := Lib.hid (fun W (hW : Fr wo W) => hfn.out W (hFr.trans hW))
  have hS0 := Lib.hid (fun W' (hW' : Fr wo W') => (⟨hW'.keep n0, hW'.keep n1, hW'.keep k0⟩ : W'.cell? ⟨nb, 0, none⟩ = some (.slice aN M cN) ∧ W'.cell? ⟨nb, 1, none⟩ = some (.slice aA d cA) ∧ W'.cell? ⟨wb, 0, none⟩ = some (.string w0)))
  go_upto_region 18 with (fail)
  go_cut [13] from 60 (fun s13 wc => ∃ (gO ob : Nat), s13 = .pointer (some ⟨ob, 0, none⟩) ∧ Fr wo wc ∧ Cel2 wc ob (.int .i64 i0) (.slice (some ⟨gO, 0, none⟩) d d) ∧ OwnI wc gO 0 (List.replicate d 0) ∧ wo.heap.size ≤ gO ∧ wo.heap.size ≤ ob ∧ gO ≠ ob)
  case first =>
    have hgw : gN ≤ wo.heap.size := by have := hFr.size; omega
    have hd0 : Fr wo wo.drew := (Fr.refl wo).drew
    refine wp_region_U (S := fun W' => W'.cell? ⟨nb, 0, none⟩ = some (.slice aN M cN) ∧ W'.cell? ⟨nb, 1, none⟩ = some (.slice aA d cA) ∧ W'.cell? ⟨wb, 0, none⟩ = some (.string w0)) 12 (by kernel_rfl) (hS0.out _ hd0) (fun hHeld => ?_)
    refine wpAnyU_take (i := 0) (v := ?_) rfl (by kernel_rfl) (by decide) (by kernel_rfl) (by kernel_rfl) (by kernel_rfl) (by kernel_rfl) (fun _ _ _ h => h) (Or.inl ⟨by rfl, ?_⟩) (by assumption) ?_
    rotate_left
    · (intro w hSw; (try dsimp only at hSw); go_simp; try (with_reducible rfl))
    change wpAnyU _ _ _ _ _ _ _ _ (Act.put _ (some 60) _) _
    simp only [Act.put, List.setIfInBounds_toArray, List.set_cons_zero, List.set_cons_succ]
    refine wpAnyU_take (i := 1) (v := ?_) rfl (by kernel_rfl) (by decide) (by kernel_rfl) (by kernel_rfl) (by kernel_rfl) (by kernel_rfl) (fun _ _ _ h => h) (Or.inl ⟨by rfl, ?_⟩) (by assumption) ?_
    rotate_left
    · (intro w hSw; (try dsimp only at hSw); go_simp; try (with_reducible rfl))
    change wpAnyU _ _ _ _ _ _ _ _ (Act.put _ (some 61) _) _
    simp only [Act.put, List.setIfInBounds_toArray, List.set_cons_zero, List.set_cons_succ]
    refine wpAnyU_take (i := 2) (v := ?_) rfl (by kernel_rfl) (by decide) (by kernel_rfl) (by kernel_rfl) (by kernel_rfl) (by kernel_rfl) (fun _ _ _ h => h) (Or.inl ⟨by rfl, ?_⟩) (by assumption) ?_
    rotate_left
    · (intro w hSw; (try dsimp only at hSw); go_simp; try (with_reducible rfl))
    change wpAnyU _ _ _ _ _ _ _ _ (Act.put _ (some 62) _) _
    simp only [Act.put, List.setIfInBounds_toArray, List.set_cons_zero, List.set_cons_succ]
    refine wpAnyU_take (i := 3) (v := ?_) rfl (by kernel_rfl) (by decide) (by kernel_rfl) (by kernel_rfl) (by kernel_rfl) (by kernel_rfl) (fun _ _ _ h => h) (Or.inl ⟨by rfl, ?_⟩) (by assumption) ?_
    rotate_left
    · (intro w hSw; (try dsimp only at hSw); go_simp; try (with_reducible rfl))
    change wpAnyU _ _ _ _ _ _ _ _ (Act.put _ (some 63) _) _
    simp only [Act.put, List.setIfInBounds_toArray, List.set_cons_zero, List.set_cons_succ]
    refine wpAnyU_take (i := 4) (v := ?_) rfl (by kernel_rfl) (by decide) (by kernel_rfl) (by kernel_rfl) (by kernel_rfl) (by kernel_rfl) (fun _ _ _ h => h) (Or.inl ⟨by rfl, ?_⟩) (by assumption) ?_
    rotate_left
    · (intro w hSw; (try dsimp only at hSw); go_simp; try (with_reducible rfl))
    change wpAnyU _ _ _ _ _ _ _ _ (Act.put _ (some 64) _) _
    simp only [Act.put, List.setIfInBounds_toArray, List.set_cons_zero, List.set_cons_succ]
    refine wpAnyU_take (i := 6) (v := ?_) rfl (by kernel_rfl) (by decide) (by kernel_rfl) (by kernel_rfl) (by kernel_rfl) (by kernel_rfl) (fun _ _ _ h => h) (Or.inl ⟨by rfl, ?_⟩) (by assumption) ?_
    rotate_left
    · (intro w hSw; (try dsimp only at hSw); go_simp; try (with_reducible rfl))
    change wpAnyU _ _ _ _ _ _ _ _ (Act.put _ (some 66) _) _
    simp only [Act.put, List.setIfInBounds_toArray, List.set_cons_zero, List.set_cons_succ]
    refine wpAnyU_take (i := 7) (v := ?_) rfl (by kernel_rfl) (by decide) (by kernel_rfl) (by kernel_rfl) (by kernel_rfl) (by kernel_rfl) (fun _ _ _ h => h) (Or.inl ⟨by rfl, ?_⟩) (by assumption) ?_
    rotate_left
    · (intro w hSw; (try dsimp only at hSw); go_simp; try (with_reducible rfl))
    change wpAnyU _ _ _ _ _ _ _ _ (Act.put _ (some 67) _) _
    simp only [Act.put, List.setIfInBounds_toArray, List.set_cons_zero, List.set_cons_succ]
    refine wpAnyU_take (i := 8) (v := ?_) rfl (by kernel_rfl) (by decide) (by kernel_rfl) (by kernel_rfl) (by kernel_rfl) (by kernel_rfl) (fun _ _ _ h => h) (Or.inl ⟨by rfl, ?_⟩) (by assumption) ?_
    rotate_left
    · (intro w hSw; (try dsimp only at hSw); go_simp; try (with_reducible rfl))
    change wpAnyU _ _ _ _ _ _ _ _ (Act.put _ (some 68) _) _
    simp only [Act.put, List.setIfInBounds_toArray, List.set_cons_zero, List.set_cons_succ]
    obtain ⟨wd, hwd⟩ : ∃ wd, wd = wo.drew := ⟨_, rfl⟩
    rw [← hwd] at hd0 hHeld ⊢
    clear hwd
    refine wpAnyU_ready (rs := [5, 9, 11]) (by kernel_rfl) (by simp) ?_
    refine AllReadyU.cons rfl (fun K hK => ?_) (AllReadyU.cons rfl (fun K hK => ?_) (AllReadyU.cons rfl (fun K hK => ?_) AllReadyU.nil))
    ·
      go_simp
      refine (hfo.out _ hd0).mono ?_
      rintro e wa5 ⟨rfl, hfC⟩
      have ha5 : Fr wo wa5 := Fr.trans hd0 hfC
      (try replace hMk := hMk.fr hfC)
      (try replace hAl := hAl.fr hfC)
      (try replace hM2 := Nat.lt_of_lt_of_le hM2 hfC.size)
      go_wp2_with fail
      refine hK.out _ _ (hS0.out _ ha5) (fun hHeld => ?_)
      clear hK K hfC
      try simp only [Act.put, List.setIfInBounds_toArray, List.set_cons_zero, List.set_cons_succ]
      refine wpAnyU_ready (rs := [9, 11]) (by kernel_rfl) (by simp) ?_
      refine AllReadyU.cons rfl (fun K hK => ?_) (AllReadyU.cons rfl (fun K hK => ?_) AllReadyU.nil)
      ·
        refine step_make_full _ rfl _ _ 29 rfl wa5.heap.size 3 i4 _ 1 Tryz.underlying29 li lz0 lz1 .i64 .i64 (d : Int) (d : Int) d (by simp [Act.eval]) (by simp [Act.eval]) rfl rfl (by rw [lz2]; omega) (by unfold maxLen; omega) (Nat.le_refl _) ?_
        intro wb9 hownM hgrM
        have hfM : Fr wa5 wb9 := (Fr.refl _).grown hgrM (fun k e => by cases e)
        have hb9 : Fr wo wb9 := Fr.trans ha5 hfM
        rw [made_zero d rfl] at hownM
        (try have hAl9 := hAl.lt)
        obtain ⟨gO, hgO⟩ : ∃ gO, gO = wa5.heap.size := ⟨_, rfl⟩
        rw [← hgO] at hownM ⊢
        have hM1 : wo.heap.size ≤ gO := by rw [hgO]; exact Fr.size ha5
        (try have hne : gO ≠ ob := by omega)
        replace hgO := Lib.hid hgO
        have hMk := (ownsRow_ownI (by omega) (ownsRow_mono (base' := gN) hownM (by have := hgO.out; omega))).1
        have hM2 : gO < wb9.heap.size := (hownM.lt gO rfl).2
        (try replace hAl := hAl.fr hfM)
        refine hK.out _ _ (hS0.out _ hb9) (fun hHeld => ?_)
        clear hK K hownM hgrM
        try simp only [Act.put, List.setIfInBounds_toArray]
        refine wpAnyU_take (i := 10) (v := ?_) rfl (by kernel_rfl) (by decide) (by kernel_rfl) (by kernel_rfl) (by kernel_rfl) (by kernel_rfl) (fun _ _ _ h => h) (Or.inl ⟨by rfl, ?_⟩) (by assumption) ?_
        rotate_left
        · (intro w hSw; (try dsimp only at hSw); go_simp; try (with_reducible rfl))
        change wpAnyU _ _ _ _ _ _ _ _ (Act.put _ (some 70) _) _
        simp only [Act.put]
        refine wpAnyU_ready (rs := [11]) (by kernel_rfl) (by simp) ?_
        refine AllReadyU.cons rfl (fun K hK => ?_) AllReadyU.nil
        go_simp
        refine hK.out _ _ (hS0.out _ (Fr.alloc hb9 _)) (fun hHeld => ?_)
        clear hK K
        try simp only [Act.put, List.setIfInBounds_toArray, List.set_cons_zero, List.set_cons_succ]
        obtain ⟨wc11, hW⟩ : ∃ W, W = wb9.alloc (.cells #[.int .i64 0, .slice none 0 0] 31) := ⟨_, rfl⟩
        have hfA : Fr wb9 wc11 := by rw [hW]; exact (Fr.refl _).alloc _
        have hc11 : Fr wo wc11 := Fr.trans hb9 hfA
        obtain ⟨ob, hob⟩ : ∃ ob, ob = wb9.heap.size := ⟨_, rfl⟩
        have hAl : Cel2 wc11 ob (.int .i64 0) (.slice none 0 0) := by rw [hW, hob]; exact Cel2.new _ _ _ _
        have hA1 : wo.heap.size ≤ ob := by rw [hob]; exact Fr.size hb9
        (try have hne : gO ≠ ob := by omega)
        rw [← hob, ← hW]
        rw [← hW] at hHeld
        (try replace hMk := hMk.fr hfA)
        (try replace hM2 := Nat.lt_of_lt_of_le hM2 hfA.size)
        clear hW
        replace hob := Lib.hid hob
        have hC9 := Lib.hid ((hAl.set0 (.int .i64 i0)).set1 (.slice (some ⟨gO, 0, none⟩) d d))
        have hfx9 : Hid (Fx (· = ob) wc11 ((wc11.setCell ⟨ob, 0, none⟩ (.int .i64 i0)).setCell ⟨ob, 1, none⟩ (.slice (some ⟨gO, 0, none⟩) d d))) := Fx.setCell (p := (· = ob)) (q := ⟨ob, 1, none⟩) (Fx.setCell (p := (· = ob)) (q := ⟨ob, 0, none⟩) (Fx.refl _ wc11) (.inl rfl) _) (.inl rfl) _
        have x1 := (hAl.set0 (.int .i64 i0)).b
        have x2 := (hAl.set0 (.int .i64 i0)).fb
        obtain ⟨p0, p1, p2, p3⟩ := hAl
        replace hMk := Lib.hid hMk
        clear hHeld
        refine wpAnyU_ready (rs := [12]) (by kernel_rfl) (by simp) ?_
        refine AllReadyU.last rfl (by kernel_rfl) (by kernel_rfl) (fun K hK => ?_)
        go_simp
        refine hK.out _ _ ?_
        clear hK K
        go_wp2_with fail
        go_meet
        case rel => exact ⟨gO, ob, rfl, ((Fx.of_fr hc11).trans hfx9.out).toFr (fun k hk e => by have e : k = ob := e; omega), hC9.out, hMk.out.fx hfx9.out (fun e => hne e), hM1, hA1, hne⟩
      ·
        go_simp
        refine hK.out _ _ (hS0.out _ (Fr.alloc ha5 _)) (fun hHeld => ?_)
        clear hK K
        try simp only [Act.put, List.setIfInBounds_toArray, List.set_cons_zero, List.set_cons_succ]
        obtain ⟨wb11, hW⟩ : ∃ W, W = wa5.alloc (.cells #[.int .i64 0, .slice none 0 0] 31) := ⟨_, rfl⟩
        have hfA : Fr wa5 wb11 := by rw [hW]; exact (Fr.refl _).alloc _
        have hb11 : Fr wo wb11 := Fr.trans ha5 hfA
        obtain ⟨ob, hob⟩ : ∃ ob, ob = wa5.heap.size := ⟨_, rfl⟩
        have hAl : Cel2 wb11 ob (.int .i64 0) (.slice none 0 0) := by rw [hW, hob]; exact Cel2.new _ _ _ _
        have hA1 : wo.heap.size ≤ ob := by rw [hob]; exact Fr.size ha5
        (try have hne : gO ≠ ob := by omega)
        rw [← hob, ← hW]
        rw [← hW] at hHeld
        (try replace hMk := hMk.fr hfA)
        (try replace hM2 := Nat.lt_of_lt_of_le hM2 hfA.size)
        clear hW
        replace hob := Lib.hid hob
        refine wpAnyU_ready (rs := [9]) (by kernel_rfl) (by simp) ?_
        refine AllReadyU.cons rfl (fun K hK => ?_) AllReadyU.nil
        refine step_make_full _ rfl _ _ 29 rfl wb11.heap.size 3 i4 _ 1 Tryz.underlying29 li lz0 lz1 .i64 .i64 (d : Int) (d : Int) d (by simp [Act.eval]) (by simp [Act.eval]) rfl rfl (by rw [lz2]; omega) (by unfold maxLen; omega) (Nat.le_refl _) ?_
        intro wc9 hownM hgrM
        have hfM : Fr wb11 wc9 := (Fr.refl _).grown hgrM (fun k e => by cases e)
        have hc9 : Fr wo wc9 := Fr.trans hb11 hfM
        rw [made_zero d rfl] at hownM
        (try have hAl9 := hAl.lt)
        obtain ⟨gO, hgO⟩ : ∃ gO, gO = wb11.heap.size := ⟨_, rfl⟩
        rw [← hgO] at hownM ⊢
        have hM1 : wo.heap.size ≤ gO := by rw [hgO]; exact Fr.size hb11
        (try have hne : gO ≠ ob := by omega)
        replace hgO := Lib.hid hgO
        have hMk := (ownsRow_ownI (by omega) (ownsRow_mono (base' := gN) hownM (by have := hgO.out; omega))).1
        have hM2 : gO < wc9.heap.size := (hownM.lt gO rfl).2
        (try replace hAl := hAl.fr hfM)
        refine hK.out _ _ (hS0.out _ hc9) (fun hHeld => ?_)
        clear hK K hownM hgrM
        try simp only [Act.put, List.setIfInBounds_toArray]
        refine wpAnyU_take (i := 10) (v := ?_) rfl (by kernel_rfl) (by decide) (by kernel_rfl) (by kernel_rfl) (by kernel_rfl) (by kernel_rfl) (fun _ _ _ h => h) (Or.inl ⟨by rfl, ?_⟩) (by assumption) ?_
        rotate_left
        · (intro w hSw; (try dsimp only at hSw); go_simp; try (with_reducible rfl))
        change wpAnyU _ _ _ _ _ _ _ _ (Act.put _ (some 70) _) _
        simp only [Act.put]
        have hC9 := Lib.hid ((hAl.set0 (.int .i64 i0)).set1 (.slice (some ⟨gO, 0, none⟩) d d))
        have hfx9 : Hid (Fx (· = ob) wc9 ((wc9.setCell ⟨ob, 0, none⟩ (.int .i64 i0)).setCell ⟨ob, 1, none⟩ (.slice (some ⟨gO, 0, none⟩) d d))) := Fx.setCell (p := (· = ob)) (q := ⟨ob, 1, none⟩) (Fx.setCell (p := (· = ob)) (q := ⟨ob, 0, none⟩) (Fx.refl _ wc9) (.inl rfl) _) (.inl rfl) _
        have x1 := (hAl.set0 (.int .i64 i0)).b
        have x2 := (hAl.set0 (.int .i64 i0)).fb
        obtain ⟨p0, p1, p2, p3⟩ := hAl
        replace hMk := Lib.hid hMk
        clear hHeld
        refine wpAnyU_ready (rs := [12]) (by kernel_rfl) (by simp) ?_
        refine AllReadyU.last rfl (by kernel_rfl) (by kernel_rfl) (fun K hK => ?_)
        go_simp
        refine hK.out _ _ ?_
        clear hK K
        go_wp2_with fail
        go_meet
        case rel => exact ⟨gO, ob, rfl, ((Fx.of_fr hc9).trans hfx9.out).toFr (fun k hk e => by have e : k = ob := e; omega), hC9.out, hMk.out.fx hfx9.out (fun e => hne e), hM1, hA1, hne⟩
    ·
      refine step_make_full _ rfl _ _ 29 rfl wd.heap.size 3 i4 _ 1 Tryz.underlying29 li lz0 lz1 .i64 .i64 (d : Int) (d : Int) d (by simp [Act.eval]) (by simp [Act.eval]) rfl rfl (by rw [lz2]; omega) (by unfold maxLen; omega) (Nat.le_refl _) ?_
      intro wa9 hownM hgrM
      have hfM : Fr wd wa9 := (Fr.refl _).grown hgrM (fun k e => by cases e)
      have ha9 : Fr wo wa9 := Fr.trans hd0 hfM
      rw [made_zero d rfl] at hownM
      (try have hAl9 := hAl.lt)
      obtain ⟨gO, hgO⟩ : ∃ gO, gO = wd.heap.size := ⟨_, rfl⟩
      rw [← hgO] at hownM ⊢
      have hM1 : wo.heap.size ≤ gO := by rw [hgO]; exact Fr.size hd0
      (try have hne : gO ≠ ob := by omega)
      replace hgO := Lib.hid hgO
      have hMk := (ownsRow_ownI (by omega) (ownsRow_mono (base' := gN) hownM (by have := hgO.out; omega))).1
      have hM2 : gO < wa9.heap.size := (hownM.lt gO rfl).2
      (try replace hAl := hAl.fr hfM)
      refine hK.out _ _ (hS0.out _ ha9) (fun hHeld => ?_)
      clear hK K hownM hgrM
      try simp only [Act.put, List.setIfInBounds_toArray]
      refine wpAnyU_ready (rs := [5, 11]) (by kernel_rfl) (by simp) ?_
      refine AllReadyU.cons rfl (fun K hK => ?_) (AllReadyU.cons rfl (fun K hK => ?_) AllReadyU.nil)
      ·
        go_simp
        refine (hfo.out _ ha9).mono ?_
        rintro e wb5 ⟨rfl, hfC⟩
        have hb5 : Fr wo wb5 := Fr.trans ha9 hfC
        (try replace hMk := hMk.fr hfC)
        (try replace hAl := hAl.fr hfC)
        (try replace hM2 := Nat.lt_of_lt_of_le hM2 hfC.size)
        go_wp2_with fail
        refine hK.out _ _ (hS0.out _ hb5) (fun hHeld => ?_)
        clear hK K hfC
        try simp only [Act.put, List.setIfInBounds_toArray, List.set_cons_zero, List.set_cons_succ]
        refine wpAnyU_take (i := 10) (v := ?_) rfl (by kernel_rfl) (by decide) (by kernel_rfl) (by kernel_rfl) (by kernel_rfl) (by kernel_rfl) (fun _ _ _ h => h) (Or.inl ⟨by rfl, ?_⟩) (by assumption) ?_
        rotate_left
        · (intro w hSw; (try dsimp only at hSw); go_simp; try (with_reducible rfl))
        change wpAnyU _ _ _ _ _ _ _ _ (Act.put _ (some 70) _) _
        simp only [Act.put, List.setIfInBounds_toArray, List.set_cons_zero, List.set_cons_succ]
        refine wpAnyU_ready (rs := [11]) (by kernel_rfl) (by simp) ?_
        refine AllReadyU.cons rfl (fun K hK => ?_) AllReadyU.nil
        go_simp
        refine hK.out _ _ (hS0.out _ (Fr.alloc hb5 _)) (fun hHeld => ?_)
        clear hK K
        try simp only [Act.put, List.setIfInBounds_toArray, List.set_cons_zero, List.set_cons_succ]
        obtain ⟨wc11, hW⟩ : ∃ W, W = wb5.alloc (.cells #[.int .i64 0, .slice none 0 0] 31) := ⟨_, rfl⟩
        have hfA : Fr wb5 wc11 := by rw [hW]; exact (Fr.refl _).alloc _
        have hc11 : Fr wo wc11 := Fr.trans hb5 hfA
        obtain ⟨ob, hob⟩ : ∃ ob, ob = wb5.heap.size := ⟨_, rfl⟩
        have hAl : Cel2 wc11 ob (.int .i64 0) (.slice none 0 0) := by rw [hW, hob]; exact Cel2.new _ _ _ _
        have hA1 : wo.heap.size ≤ ob := by rw [hob]; exact Fr.size hb5
        (try have hne : gO ≠ ob := by omega)
        rw [← hob, ← hW]
        rw [← hW] at hHeld
        (try replace hMk := hMk.fr hfA)
        (try replace hM2 := Nat.lt_of_lt_of_le hM2 hfA.size)
        clear hW
        replace hob := Lib.hid hob
        have hC9 := Lib.hid ((hAl.set0 (.int .i64 i0)).set1 (.slice (some ⟨gO, 0, none⟩) d d))
        have hfx9 : Hid (Fx (· = ob) wc11 ((wc11.setCell ⟨ob, 0, none⟩ (.int .i64 i0)).setCell ⟨ob, 1, none⟩ (.slice (some ⟨gO, 0, none⟩) d d))) := Fx.setCell (p := (· = ob)) (q := ⟨ob, 1, none⟩) (Fx.setCell (p := (· = ob)) (q := ⟨ob, 0, none⟩) (Fx.refl _ wc11) (.inl rfl) _) (.inl rfl) _
        have x1 := (hAl.set0 (.int .i64 i0)).b
        have x2 := (hAl.set0 (.int .i64 i0)).fb
        obtain ⟨p0, p1, p2, p3⟩ := hAl
        replace hMk := Lib.hid hMk
        clear hHeld
        refine wpAnyU_ready (rs := [12]) (by kernel_rfl) (by simp) ?_
        refine AllReadyU.last rfl (by kernel_rfl) (by kernel_rfl) (fun K hK => ?_)
        go_simp
        refine hK.out _ _ ?_
        clear hK K
        go_wp2_with fail
        go_meet
        case rel => exact ⟨gO, ob, rfl, ((Fx.of_fr hc11).trans hfx9.out).toFr (fun k hk e => by have e : k = ob := e; omega), hC9.out, hMk.out.fx hfx9.out (fun e => hne e), hM1, hA1, hne⟩
      ·
        go_simp
        refine hK.out _ _ (hS0.out _ (Fr.alloc ha9 _)) (fun hHeld => ?_)
        clear hK K
        try simp only [Act.put, List.setIfInBounds_toArray, List.set_cons_zero, List.set_cons_succ]
        obtain ⟨wb11, hW⟩ : ∃ W, W = wa9.alloc (.cells #[.int .i64 0, .slice none 0 0] 31) := ⟨_, rfl⟩
        have hfA : Fr wa9 wb11 := by rw [hW]; exact (Fr.refl _).alloc _
        have hb11 : Fr wo wb11 := Fr.trans ha9 hfA
        obtain ⟨ob, hob⟩ : ∃ ob, ob = wa9.heap.size := ⟨_, rfl⟩
        have hAl : Cel2 wb11 ob (.int .i64 0) (.slice none 0 0) := by rw [hW, hob]; exact Cel2.new _ _ _ _
        have hA1 : wo.heap.size ≤ ob := by rw [hob]; exact Fr.size ha9
        (try have hne : gO ≠ ob := by omega)
        rw [← hob, ← hW]
        rw [← hW] at hHeld
        (try replace hMk := hMk.fr hfA)
        (try replace hM2 := Nat.lt_of_lt_of_le hM2 hfA.size)
        clear hW
        replace hob := Lib.hid hob
        refine wpAnyU_ready (rs := [5]) (by kernel_rfl) (by simp) ?_
        refine AllReadyU.cons rfl (fun K hK => ?_) AllReadyU.nil
        go_simp
        refine (hfo.out _ hb11).mono ?_
        rintro e wc5 ⟨rfl, hfC⟩
        have hc5 : Fr wo wc5 := Fr.trans hb11 hfC
        (try replace hMk := hMk.fr hfC)
        (try replace hAl := hAl.fr hfC)
        (try replace hM2 := Nat.lt_of_lt_of_le hM2 hfC.size)
        go_wp2_with fail
        refine hK.out _ _ (hS0.out _ hc5) (fun hHeld => ?_)
        clear hK K hfC
        try simp only [Act.put, List.setIfInBounds_toArray, List.set_cons_zero, List.set_cons_succ]
        refine wpAnyU_take (i := 10) (v := ?_) rfl (by kernel_rfl) (by decide) (by kernel_rfl) (by kernel_rfl) (by kernel_rfl) (by kernel_rfl) (fun _ _ _ h => h) (Or.inl ⟨by rfl, ?_⟩) (by assumption) ?_
        rotate_left
        · (intro w hSw; (try dsimp only at hSw); go_simp; try (with_reducible rfl))
        change wpAnyU _ _ _ _ _ _ _ _ (Act.put _ (some 70) _) _
        simp only [Act.put, List.setIfInBounds_toArray, List.set_cons_zero, List.set_cons_succ]
        have hC9 := Lib.hid ((hAl.set0 (.int .i64 i0)).set1 (.slice (some ⟨gO, 0, none⟩) d d))
        have hfx9 : Hid (Fx (· = ob) wc5 ((wc5.setCell ⟨ob, 0, none⟩ (.int .i64 i0)).setCell ⟨ob, 1, none⟩ (.slice (some ⟨gO, 0, none⟩) d d))) := Fx.setCell (p := (· = ob)) (q := ⟨ob, 1, none⟩) (Fx.setCell (p := (· = ob)) (q := ⟨ob, 0, none⟩) (Fx.refl _ wc5) (.inl rfl) _) (.inl rfl) _
        have x1 := (hAl.set0 (.int .i64 i0)).b
        have x2 := (hAl.set0 (.int .i64 i0)).fb
        obtain ⟨p0, p1, p2, p3⟩ := hAl
        replace hMk := Lib.hid hMk
        clear hHeld
        refine wpAnyU_ready (rs := [12]) (by kernel_rfl) (by simp) ?_
        refine AllReadyU.last rfl (by kernel_rfl) (by kernel_rfl) (fun K hK => ?_)
        go_simp
        refine hK.out _ _ ?_
        clear hK K
        go_wp2_with fail
        go_meet
        case rel => exact ⟨gO, ob, rfl, ((Fx.of_fr hc5).trans hfx9.out).toFr (fun k hk e => by have e : k = ob := e; omega), hC9.out, hMk.out.fx hfx9.out (fun e => hne e), hM1, hA1, hne⟩
    ·
      go_simp
      refine hK.out _ _ (hS0.out _ (Fr.alloc hd0 _)) (fun hHeld => ?_)
      clear hK K
      try simp only [Act.put, List.setIfInBounds_toArray, List.set_cons_zero, List.set_cons_succ]
      obtain ⟨wa11, hW⟩ : ∃ W, W = wd.alloc (.cells #[.int .i64 0, .slice none 0 0] 31) := ⟨_, rfl⟩
      have hfA : Fr wd wa11 := by rw [hW]; exact (Fr.refl _).alloc _
      have ha11 : Fr wo wa11 := Fr.trans hd0 hfA
      obtain ⟨ob, hob⟩ : ∃ ob, ob = wd.heap.size := ⟨_, rfl⟩
      have hAl : Cel2 wa11 ob (.int .i64 0) (.slice none 0 0) := by rw [hW, hob]; exact Cel2.new _ _ _ _
      have hA1 : wo.heap.size ≤ ob := by rw [hob]; exact Fr.size hd0
      (try have hne : gO ≠ ob := by omega)
      rw [← hob, ← hW]
      rw [← hW] at hHeld
      (try replace hMk := hMk.fr hfA)
      (try replace hM2 := Nat.lt_of_lt_of_le hM2 hfA.size)
      clear hW
      replace hob := Lib.hid hob
      refine wpAnyU_ready (rs := [5, 9]) (by kernel_rfl) (by simp) ?_
      refine AllReadyU.cons rfl (fun K hK => ?_) (AllReadyU.cons rfl (fun K hK => ?_) AllReadyU.nil)
      ·
        go_simp
        refine (hfo.out _ ha11).mono ?_
        rintro e wb5 ⟨rfl, hfC⟩
        have hb5 : Fr wo wb5 := Fr.trans ha11 hfC
        (try replace hMk := hMk.fr hfC)
        (try replace hAl := hAl.fr hfC)
        (try replace hM2 := Nat.lt_of_lt_of_le hM2 hfC.size)
        go_wp2_with fail
        refine hK.out _ _ (hS0.out _ hb5) (fun hHeld => ?_)
        clear hK K hfC
        try simp only [Act.put, List.setIfInBounds_toArray, List.set_cons_zero, List.set_cons_succ]
        refine wpAnyU_ready (rs := [9]) (by kernel_rfl) (by simp) ?_
        refine AllReadyU.cons rfl (fun K hK => ?_) AllReadyU.nil
        refine step_make_full _ rfl _ _ 29 rfl wb5.heap.size 3 i4 _ 1 Tryz.underlying29 li lz0 lz1 .i64 .i64 (d : Int) (d : Int) d (by simp [Act.eval]) (by simp [Act.eval]) rfl rfl (by rw [lz2]; omega) (by unfold maxLen; omega) (Nat.le_refl _) ?_
        intro wc9 hownM hgrM
        have hfM : Fr wb5 wc9 := (Fr.refl _).grown hgrM (fun k e => by cases e)
        have hc9 : Fr wo wc9 := Fr.trans hb5 hfM
        rw [made_zero d rfl] at hownM
        (try have hAl9 := hAl.lt)
        obtain ⟨gO, hgO⟩ : ∃ gO, gO = wb5.heap.size := ⟨_, rfl⟩
        rw [← hgO] at hownM ⊢
        have hM1 : wo.heap.size ≤ gO := by rw [hgO]; exact Fr.size hb5
        (try have hne : gO ≠ ob := by omega)
        replace hgO := Lib.hid hgO
        have hMk := (ownsRow_ownI (by omega) (ownsRow_mono (base' := gN) hownM (by have := hgO.out; omega))).1
        have hM2 : gO < wc9.heap.size := (hownM.lt gO rfl).2
        (try replace hAl := hAl.fr hfM)
        refine hK.out _ _ (hS0.out _ hc9) (fun hHeld => ?_)
        clear hK K hownM hgrM
        try simp only [Act.put, List.setIfInBounds_toArray]
        refine wpAnyU_take (i := 10) (v := ?_) rfl (by kernel_rfl) (by decide) (by kernel_rfl) (by kernel_rfl) (by kernel_rfl) (by kernel_rfl) (fun _ _ _ h => h) (Or.inl ⟨by rfl, ?_⟩) (by assumption) ?_
        rotate_left
        · (intro w hSw; (try dsimp only at hSw); go_simp; try (with_reducible rfl))
        change wpAnyU _ _ _ _ _ _ _ _ (Act.put _ (some 70) _) _
        simp only [Act.put]
        have hC9 := Lib.hid ((hAl.set0 (.int .i64 i0)).set1 (.slice (some ⟨gO, 0, none⟩) d d))
        have hfx9 : Hid (Fx (· = ob) wc9 ((wc9.setCell ⟨ob, 0, none⟩ (.int .i64 i0)).setCell ⟨ob, 1, none⟩ (.slice (some ⟨gO, 0, none⟩) d d))) := Fx.setCell (p := (· = ob)) (q := ⟨ob, 1, none⟩) (Fx.setCell (p := (· = ob)) (q := ⟨ob, 0, none⟩) (Fx.refl _ wc9) (.inl rfl) _) (.inl rfl) _
        have x1 := (hAl.set0 (.int .i64 i0)).b
        have x2 := (hAl.set0 (.int .i64 i0)).fb
        obtain ⟨p0, p1, p2, p3⟩ := hAl
        replace hMk := Lib.hid hMk
        clear hHeld
        refine wpAnyU_ready (rs := [12]) (by kernel_rfl) (by simp) ?_
        refine AllReadyU.last rfl (by kernel_rfl) (by kernel_rfl) (fun K hK => ?_)
        go_simp
        refine hK.out _ _ ?_
        clear hK K
        go_wp2_with fail
        go_meet
        case rel => exact ⟨gO, ob, rfl, ((Fx.of_fr hc9).trans hfx9.out).toFr (fun k hk e => by have e : k = ob := e; omega), hC9.out, hMk.out.fx hfx9.out (fun e => hne e), hM1, hA1, hne⟩
      ·
        refine step_make_full _ rfl _ _ 29 rfl wa11.heap.size 3 i4 _ 1 Tryz.underlying29 li lz0 lz1 .i64 .i64 (d : Int) (d : Int) d (by simp [Act.eval]) (by simp [Act.eval]) rfl rfl (by rw [lz2]; omega) (by unfold maxLen; omega) (Nat.le_refl _) ?_
        intro wb9 hownM hgrM
        have hfM : Fr wa11 wb9 := (Fr.refl _).grown hgrM (fun k e => by cases e)
        have hb9 : Fr wo wb9 := Fr.trans ha11 hfM
        rw [made_zero d rfl] at hownM
        (try have hAl9 := hAl.lt)
        obtain ⟨gO, hgO⟩ : ∃ gO, gO = wa11.heap.size := ⟨_, rfl⟩
        rw [← hgO] at hownM ⊢
        have hM1 : wo.heap.size ≤ gO := by rw [hgO]; exact Fr.size ha11
        (try have hne : gO ≠ ob := by omega)
        replace hgO := Lib.hid hgO
        have hMk := (ownsRow_ownI (by omega) (ownsRow_mono (base' := gN) hownM (by have := hgO.out; omega))).1
        have hM2 : gO < wb9.heap.size := (hownM.lt gO rfl).2
        (try replace hAl := hAl.fr hfM)
        refine hK.out _ _ (hS0.out _ hb9) (fun hHeld => ?_)
        clear hK K hownM hgrM
        try simp only [Act.put, List.setIfInBounds_toArray]
        refine wpAnyU_ready (rs := [5]) (by kernel_rfl) (by simp) ?_
        refine AllReadyU.cons rfl (fun K hK => ?_) AllReadyU.nil
        go_simp
        refine (hfo.out _ hb9).mono ?_
        rintro e wc5 ⟨rfl, hfC⟩
        have hc5 : Fr wo wc5 := Fr.trans hb9 hfC
        (try replace hMk := hMk.fr hfC)
        (try replace hAl := hAl.fr hfC)
        (try replace hM2 := Nat.lt_of_lt_of_le hM2 hfC.size)
        go_wp2_with fail
        refine hK.out _ _ (hS0.out _ hc5) (fun hHeld => ?_)
        clear hK K hfC
        try simp only [Act.put, List.setIfInBounds_toArray, List.set_cons_zero, List.set_cons_succ]
        refine wpAnyU_take (i := 10) (v := ?_) rfl (by kernel_rfl) (by decide) (by kernel_rfl) (by kernel_rfl) (by kernel_rfl) (by kernel_rfl) (fun _ _ _ h => h) (Or.inl ⟨by rfl, ?_⟩) (by assumption) ?_
        rotate_left
        · (intro w hSw; (try dsimp only at hSw); go_simp; try (with_reducible rfl))
        change wpAnyU _ _ _ _ _ _ _ _ (Act.put _ (some 70) _) _
        simp only [Act.put, List.setIfInBounds_toArray, List.set_cons_zero, List.set_cons_succ]
        have hC9 := Lib.hid ((hAl.set0 (.int .i64 i0)).set1 (.slice (some ⟨gO, 0, none⟩) d d))
        have hfx9 : Hid (Fx (· = ob) wc5 ((wc5.setCell ⟨ob, 0, none⟩ (.int .i64 i0)).setCell ⟨ob, 1, none⟩ (.slice (some ⟨gO, 0, none⟩) d d))) := Fx.setCell (p := (· = ob)) (q := ⟨ob, 1, none⟩) (Fx.setCell (p := (· = ob)) (q := ⟨ob, 0, none⟩) (Fx.refl _ wc5) (.inl rfl) _) (.inl rfl) _
        have x1 := (hAl.set0 (.int .i64 i0)).b
        have x2 := (hAl.set0 (.int .i64 i0)).fb
        obtain ⟨p0, p1, p2, p3⟩ := hAl
        replace hMk := Lib.hid hMk
        clear hHeld
        refine wpAnyU_ready (rs := [12]) (by kernel_rfl) (by simp) ?_
        refine AllReadyU.last rfl (by kernel_rfl) (by kernel_rfl) (fun K hK => ?_)
        go_simp
        refine hK.out _ _ ?_
        clear hK K
        go_wp2_with fail
        go_meet
        case rel => exact ⟨gO, ob, rfl, ((Fx.of_fr hc5).trans hfx9.out).toFr (fun k hk e => by have e : k = ob := e; omega), hC9.out, hMk.out.fx hfx9.out (fun e => hne e), hM1, hA1, hne⟩
  obtain ⟨gO, ob, rfl, hfc, hO5, hOw, hgo1, hgo2, hgo3⟩ := hcut
  obtain ⟨W5, rfl⟩ : ∃ W5 : World, W5 = wc := ⟨_, rfl⟩
  have hF5 := hFr.trans hfc
  have hcon := Lib.hid (fun W => Tryz.slices_Contains_int_empty none 0 (-1) W)
  have o0 := hO5.a
  have o1 := hO5.b
  have di : decide ((i0 : Int) < 0) = false := decide_eq_false (by omega)
  clear n0 n1 k0 hS0 hfo hcw
  replace hOw := Lib.hid hOw
  replace hO5 := Lib.hid hO5
  have f15 := Lib.hid ((f13.trans hf).trans hfc)
  go_wp2_with fail
  refine wp_loop_rounds 1 ?_
  rw [rounds_succ]
  go_wp2_with fail
  refine (hcon.out _).mono ?_
  rintro e wC ⟨rfl, rfl⟩
  go_wp2_with fail
  refine wp_loop_rounds 1 ?_
  rw [rounds_succ]
  go_wp2_with fail
  refine wp_loop_rounds 1 ?_
  rw [rounds_succ]
  clear hcon o0 o1 di
  have a5 := hO5.out.a
  have a6 := hO5.out.b
  have hS9 : Cel2 wC (nb + 1) (.int .i64 0) (.slice none 0 0) := hS1.out.fr f15.out
  have hS10 := Lib.hid ((hS9.set0 (.int .i64 i0)).set1 (.slice (some ⟨gO, 0, none⟩) d d))
  have hfx10 : Hid (Fx (· = nb + 1) wC ((wC.setCell ⟨nb + 1, 0, none⟩ (.int .i64 i0)).setCell ⟨nb + 1, 1, none⟩ (.slice (some ⟨gO, 0, none⟩) d d))) := Fx.setCell (p := (· = nb + 1)) (q := ⟨nb + 1, 1, none⟩) (Fx.setCell (p := (· = nb + 1)) (q := ⟨nb + 1, 0, none⟩) (Fx.refl _ wC) (.inl rfl) _) (.inl rfl) _
  have x1 := (hS9.set0 (.int .i64 i0)).b
  have x2 := (hS9.set0 (.int .i64 i0)).fb
  have hlt9 : nb + 1 < wo.heap.size := (hS1.out.fr (f13.trans hf)).lt
  obtain ⟨b0, b1, e0, e1⟩ := hS9
  go_wp2_with fail
  have q0 := hS10.out.a
  have q1 := hS10.out.b
  refine bodyPost_ret (v := .tuple #[.agg #[.int .i64 i0, .slice (some ⟨gO, 0, none⟩) d d], .int .i64 0]) (by simp [results, Tryz.results14, go_sem, q0, q1]) rfl ?_
  exact ⟨gO, d, rfl, hOw.out.el.fx hfx10.out (fun e => by have e : gO = nb + 1 := e; omega), List.length_replicate, by
    exact ((Fx.of_fr hF5).trans hfx10.out).toFr (fun k hk e => by have e : k = nb + 1 := e; have := hnb.out; omega)⟩
end Go.Proofs.YtamffndlpminmaaGreatDoor
