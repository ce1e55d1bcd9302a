/-
  Contracts and laws for the statements of the law 43 of the seat, QG.
-/
import Derived.Test.YtbpfkmpkadimeaaGreatDoorQF
import Derived.Test.YtbpfkmpkadimeaaGreatDoorQA
import Derived.Test.YtbpfkmpkadimeaaGreatDoorQC

/- spelling.Check at every notation: the first error. -/
namespace Go.Proofs.YtbpfkmpkadimeaaGreatDoor
open Go.RowKit Go.Lib

/-- the error of a symbol behind others -/
def symE (d : Nat) (prev : List Sy) (x : Sy) : Int :=
  if isName x.nm = false then 8 else if prev.any (fun y => y.nm.toList == x.nm.toList) = true then 9 else if rowE x.row ≠ 0 then rowE x.row else if 12 < x.row.length then 4 else if x.row.length ≠ d then 5 else 0
/-- the first error of the symbols from a place on -/
def scanE (d : Nat) (L : List Sy) : Nat → Nat → Int
  | 0, _ => 0
  | k + 1, i => match L[i]? with
    | none => 0
    | some x => if symE d (L.take i) x ≠ 0 then symE d (L.take i) x else scanE d L k (i + 1)
def headD (L : List Sy) : Nat := match L with
  | [] => 0
  | x :: _ => x.row.length
/-- the first error of a notation -/
def chkE (N A : List Sy) : Int := if N.length = 0 then 13 else if 60 < N.length ∨ 6 < A.length then 4 else scanE (headD (N ++ A)) (N ++ A) (N ++ A).length 0
theorem headD_at {L : List Sy} {x : Sy} (h : L[0]? = some x) : headD L = x.row.length := by
  cases L with
  | nil => simp at h
  | cons y l => rw [List.getElem?_cons_zero] at h; injection h with h; subst h; rfl
theorem scanE_bad {d : Nat} {L : List Sy} {k i : Nat} {x : Sy} (h : L[i]? = some x) (hb : symE d (L.take i) x ≠ 0) : scanE d L (k + 1) i = symE d (L.take i) x := by
  show (match L[i]? with | none => 0 | some x => if symE d (L.take i) x ≠ 0 then symE d (L.take i) x else scanE d L k (i + 1)) = _
  rw [h]; exact if_pos hb
theorem scanE_ok {d : Nat} {L : List Sy} {k i : Nat} {x : Sy} (h : L[i]? = some x) (hb : symE d (L.take i) x = 0) : scanE d L (k + 1) i = scanE d L k (i + 1) := by
  show (match L[i]? with | none => 0 | some x => if symE d (L.take i) x ≠ 0 then symE d (L.take i) x else scanE d L k (i + 1)) = _
  rw [h]; exact if_neg (by rw [hb]; simp)
theorem symE_name {d : Nat} {p : List Sy} {x : Sy} (h : isName x.nm = false) : symE d p x = 8 := by unfold symE; rw [if_pos h]
theorem symE_dup {d : Nat} {p : List Sy} {x : Sy} (h : isName x.nm = true) (h2 : p.any (fun y => y.nm.toList == x.nm.toList) = true) : symE d p x = 9 := by
  unfold symE; rw [if_neg (by rw [h]; simp), if_pos h2]
theorem symE_row {d : Nat} {p : List Sy} {x : Sy} (h : isName x.nm = true) (h2 : p.any (fun y => y.nm.toList == x.nm.toList) = false) (h3 : rowE x.row ≠ 0) : symE d p x = rowE x.row := by
  unfold symE; rw [if_neg (by rw [h]; simp), if_neg (by rw [h2]; simp), if_pos h3]
theorem symE_long {d : Nat} {p : List Sy} {x : Sy} (h : isName x.nm = true) (h2 : p.any (fun y => y.nm.toList == x.nm.toList) = false) (h3 : rowE x.row = 0) (h4 : 12 < x.row.length) : symE d p x = 4 := by
  unfold symE; rw [if_neg (by rw [h]; simp), if_neg (by rw [h2]; simp), if_neg (by rw [h3]; simp), if_pos h4]
theorem symE_size {d : Nat} {p : List Sy} {x : Sy} (h : isName x.nm = true) (h2 : p.any (fun y => y.nm.toList == x.nm.toList) = false) (h3 : rowE x.row = 0) (h4 : ¬ 12 < x.row.length) (h5 : x.row.length ≠ d) : symE d p x = 5 := by
  unfold symE; rw [if_neg (by rw [h]; simp), if_neg (by rw [h2]; simp), if_neg (by rw [h3]; simp), if_neg h4, if_pos h5]
theorem symE_ok {d : Nat} {p : List Sy} {x : Sy} (h : isName x.nm = true) (h2 : p.any (fun y => y.nm.toList == x.nm.toList) = false) (h3 : rowE x.row = 0) (h4 : ¬ 12 < x.row.length) (h5 : x.row.length = d) : symE d p x = 0 := by
  unfold symE; rw [if_neg (by rw [h]; simp), if_neg (by rw [h2]; simp), if_neg (by rw [h3]; simp), if_neg h4, if_neg (by rw [h5]; simp)]

/-- names and rows of symbols that are not too long for the walk -/
def SyFit (L : List Sy) : Prop := ∀ x, x ∈ L → x.nm.size ≤ 1000000000 ∧ x.row.length ≤ 1000000000

set_option maxRecDepth 100000 in
set_option maxHeartbeats 8000000 in
theorem SCheck_any (aN aA : Option Addr) (cN cA : Nat) (N A : List Sy) (w : World) (hn : NotIs w aN aA cA N A) (hs : SyFit (N ++ A)) (hNl : N.length ≤ 1000000000) (hAl : A.length ≤ 1000000000) :
    Calls Tryz.prog 21 #[.agg #[.slice aN N.length cN, .slice aA A.length cA]] w fun e w' => e = .returned (.int .i64 (chkE N A)) ∧ Fr w w' := by
  have f0 : Fr w (w.alloc (.cells #[.slice aN N.length cN, .slice aA A.length cA] 31)) := (Fr.refl w).alloc _
  by_cases hn1 : N.length = 0
  · have hfin := Lib.hid (show chkE N A = 13 by unfold chkE; rw [if_pos hn1])
    have d1 : ((N.length : Int) == 0) = true := by rw [hn1]; rfl
    replace f0 := Lib.hid f0
    clear hn hs
    replace hn1 := Lib.hid hn1
    go_enter Tryz.func21, Tryz.ntmps21
    go_wp2_with fail
    go_ret
    exact ⟨ret_int hfin.out.symm, f0.out⟩
  have d1 : ((N.length : Int) == 0) = false := beq_false_of_ne (by omega)
  by_cases hn60 : 60 < N.length
  · have hfin := Lib.hid (show chkE N A = 4 by unfold chkE; rw [if_neg hn1, if_pos (.inl hn60)])
    have d2 : decide ((60 : Int) < (N.length : Int)) = true := decide_eq_true (by omega)
    replace f0 := Lib.hid f0
    clear hn hs
    replace hn1 := Lib.hid hn1
    go_enter Tryz.func21, Tryz.ntmps21
    go_wp2_with fail
    go_ret
    exact ⟨ret_int hfin.out.symm, f0.out⟩
  have d2 : decide ((60 : Int) < (N.length : Int)) = false := decide_eq_false (by omega)
  by_cases ha6 : 6 < A.length
  · have hfin := Lib.hid (show chkE N A = 4 by unfold chkE; rw [if_neg hn1, if_pos (.inr ha6)])
    have d3 : decide ((6 : Int) < (A.length : Int)) = true := decide_eq_true (by omega)
    replace f0 := Lib.hid f0
    clear hn hs
    replace hn1 := Lib.hid hn1
    go_enter Tryz.func21, Tryz.ntmps21
    go_wp2_with fail
    go_ret
    exact ⟨ret_int hfin.out.symm, f0.out⟩
  have d3 : decide ((6 : Int) < (A.length : Int)) = false := decide_eq_false (by omega)
  have hE : chkE N A = scanE (headD (N ++ A)) (N ++ A) (N ++ A).length 0 := by unfold chkE; rw [if_neg hn1, if_neg (by omega)]
  replace hn1 : 0 < N.length := by omega
  have hcat : ∀ W : World, Fr w W → ∀ (p c : Nat), p < W.heap.size → W.cell? ⟨p, 0, none⟩ = some (.slice aN N.length cN) → W.cell? ⟨p, 1, none⟩ = some (.slice aA A.length cA) →
      Calls Tryz.prog 57 #[.slice (some ⟨p, 0, none⟩) 2 c] W (fun e w' => ∃ g cp, e = .returned (.slice (some ⟨g, 0, none⟩) (N ++ A).length cp) ∧ Syms w' (some ⟨g, 0, none⟩) (N ++ A) ∧ (N ++ A).length ≤ cp ∧ Fr W w') := fun W hW p c hp h1 h2 => by
    have hN := hn.fr hW
    have h := Concat_sym p c aN aA cN cA (N.map Sy.enc) (A.map Sy.enc) W hp (by rw [List.length_map]; exact h1) (by rw [List.length_map]; exact h2) hN.noms.1 hN.accs.1 (fun e => ⟨(hN.nil e).1, by rw [(hN.nil e).2]; rfl⟩) (Sy.one N) (Sy.one A) (by rw [List.length_map, List.length_map]; omega) (by rw [List.length_map]; exact hn1)
    rw [← List.map_append] at h
    refine h.mono ?_
    rintro e w' ⟨g, cp, rfl, hp', -, hcp, hf⟩
    refine ⟨g, cp, by rw [List.length_map], ⟨hp', fun x hx => ?_⟩, by rw [List.length_map] at hcp; exact hcp, hf⟩
    rcases List.mem_append.1 hx with h9 | h9
    · exact (hN.noms.2 x h9).fr hf
    · exact (hN.accs.2 x h9).fr hf
  have hlen : (N ++ A).length = N.length + A.length := List.length_append
  obtain ⟨T, hT⟩ : ∃ T, T = (N ++ A).length := ⟨_, rfl⟩
  rw [← hT] at hcat hlen hE
  have hT1 : 0 < T := by omega
  have hT2 : T ≤ 66 := by omega
  obtain ⟨n, hnn⟩ : ∃ n, n = N.length := ⟨_, rfl⟩
  obtain ⟨a, han⟩ : ∃ a, a = A.length := ⟨_, rfl⟩
  rw [← hnn] at hcat hn1 hn60 d1 d2 f0 ⊢
  rw [← han] at hcat ha6 d3 f0 ⊢
  generalize chkE N A = E at *
  generalize N ++ A = L at *
  clear hn hlen hnn han
  replace hcat := Lib.hid hcat
  replace hs := Lib.hid hs
  replace hT := Lib.hid hT
  replace hE := Lib.hid hE
  go_enter Tryz.func21, Tryz.ntmps21
  go_wp2_with fail
  have p1 := new2a (w.alloc (.cells #[.slice aN n cN, .slice aA a cA] 31)) (.slice aN n cN) (.slice aA a cA) 29
  have p2 := new2b (w.alloc (.cells #[.slice aN n cN, .slice aA a cA] 31)) (.slice aN n cN) (.slice aA a cA) 29
  rw [show (w.alloc (.cells #[.slice aN n cN, .slice aA a cA] 31)).heap.size = w.heap.size + 1 by simp] at p1 p2
  refine (hcat.out _ (f0.alloc _) (w.heap.size + 1) 2 (by simp) p1.1 p2.1).mono ?_
  rintro e w1 ⟨g, cp, rfl, hsy, hcp, hf1⟩
  have hf : Fr w w1 := (f0.alloc _).trans hf1
  clear p1 p2 f0 hcat hf1
  replace hsy := Lib.hid hsy
  go_wp2_with fail
  go_loopg [29] T (fun gk s29 wr => ∃ i : Nat, s29 = .int .i64 i ∧ i + gk = T ∧ scanE (headD L) L gk i = E ∧ Fr w1 wr)
  case atStart => exact ⟨0, rfl, by omega, hE.out.symm, Fr.refl _⟩
  case round =>
    obtain ⟨i, rfl, hik, hsc, hfr⟩ := hrel
    by_cases hi : i < T
    · have hdI : decide (i < T) = true := decide_eq_true hi
      obtain ⟨b, o, x, hae, hbl, hxi, hc1, hc2, hel⟩ := (hsy.out.fr hfr).at (i := i) (by rw [← hT.out]; exact hi)
      injection hae with hae; injection hae with h1 h2
      subst h1; subst h2
      obtain ⟨b, o, x0, hae, hbl0, hx0, hc3, hc4, hel0⟩ := (hsy.out.fr hfr).at (i := 0) (by rw [← hT.out]; exact hT1)
      injection hae with hae; injection hae with h1 h2
      subst h1; subst h2
      have hmem : x ∈ L := List.mem_of_getElem? hxi
      obtain ⟨hnl, hrl⟩ := hs.out x hmem
      have hN := IsName_any x.nm
      have hd0 := headD_at hx0
      have hck := fun W (hW : Fr wr W) => Check_row x.row x.ra x.rc W (hel.fr hW) hrl
      have eg : ∀ args w, (callFunc 61 args).run Tryz.prog w = .ok (.enter 61 args) w := enters_of Tryz.func61 (by kernel_rfl) rfl
      have hcf := fun (W : World) (hW : Fr wr W) (p : Nat) (hp : W.cell? ⟨p, 0, none⟩ = some (.string x.nm)) =>
        ContainsFunc_sym Sy.enc (L.take i) (some ⟨g, 0, none⟩) cp 61 #[.pointer (some ⟨p, 0, none⟩)] (fun y => y.nm.toList == x.nm.toList) W eg (by rw [List.map_take]; exact ((hsy.out.fr hfr).fr hW).1.take i) (by rw [List.length_take]; omega) (SCheck1_pred W p x.nm _ hp)
      rw [List.length_take, Nat.min_eq_left (by rw [← hT.out]; omega)] at hcf
      obtain ⟨k1, rfl⟩ : ∃ k1, gk = k1 + 1 := ⟨gk - 1, by omega⟩
      have eN := fun (h : isName x.nm = false) => (scanE_bad (k := k1) hxi (by rw [symE_name h]; simp)).symm.trans hsc |>.symm.trans (symE_name (d := headD L) (p := L.take i) h)
      have eD := fun (h : isName x.nm = true) h2 => (scanE_bad (k := k1) hxi (by rw [symE_dup h h2]; simp)).symm.trans hsc |>.symm.trans (symE_dup (d := headD L) (p := L.take i) h h2)
      have eR := fun (h : isName x.nm = true) h2 h3 => (scanE_bad (k := k1) hxi (by rw [symE_row h h2 h3]; exact h3)).symm.trans hsc |>.symm.trans (symE_row (d := headD L) (p := L.take i) h h2 h3)
      have eL := fun (h : isName x.nm = true) h2 h3 h4 => (scanE_bad (k := k1) hxi (by rw [symE_long h h2 h3 h4]; simp)).symm.trans hsc |>.symm.trans (symE_long (d := headD L) (p := L.take i) h h2 h3 h4)
      have eS := fun (h : isName x.nm = true) h2 h3 h4 h5 => (scanE_bad (k := k1) hxi (by rw [symE_size h h2 h3 h4 h5]; simp)).symm.trans hsc |>.symm.trans (symE_size (d := headD L) (p := L.take i) h h2 h3 h4 h5)
      have eO := fun (h : isName x.nm = true) h2 h3 h4 h5 => (scanE_ok (k := k1) hxi (symE_ok (d := headD L) (p := L.take i) h h2 h3 h4 h5)).symm.trans hsc
      clear hsc
      replace hN := Lib.hid hN
      replace hck := Lib.hid hck
      replace hcf := Lib.hid hcf
      replace eN := Lib.hid eN
      replace eD := Lib.hid eD
      replace eR := Lib.hid eR
      replace eL := Lib.hid eL
      replace eS := Lib.hid eS
      replace eO := Lib.hid eO
      replace hd0 := Lib.hid hd0
      generalize (L.take i).any (fun y => y.nm.toList == x.nm.toList) = bD at *
      generalize isName x.nm = bN at *
      generalize rowE x.row = bR at *
      generalize x.row.length = d at *
      generalize x0.row.length = d0 at *
      generalize x.nm = nm at *
      generalize x.ra = ra at *
      generalize x.rc = rc at *
      generalize x0.ra = ra0 at *
      generalize x0.rc = rc0 at *
      generalize x0.nm = nm0 at *
      clear hxi hx0 hmem eg hel hel0 hc3
      have z1 : (i : Int) < (T : Int) := by omega
      have z2 : (0 : Int) ≤ (i : Int) := by omega
      rw [Nat.zero_mul, Nat.add_zero] at hc4
      rw [Nat.zero_add] at hc1 hc2
      go_wp2_with fail
      have a1 := new2a wr (.string nm) (.slice ra d rc) 46
      have a2 := new2b wr (.string nm) (.slice ra d rc) 46
      have hfa : Fr wr (wr.alloc (.cells #[.string nm, .slice ra d rc] 46)) := (Fr.refl wr).alloc _
      refine (hN.out _ hnl).mono ?_
      rintro e w2 ⟨rfl, rfl⟩
      cases bN with
      | false =>
        go_wp2_with fail
        go_ret
        exact ⟨ret_int (eN.out (by trivial)).symm, (hf.trans hfr).trans hfa⟩
      | true =>
      go_wp2_with fail
      refine (hcf.out _ hfa _ a1.1).mono ?_
      rintro e w3 ⟨rfl, hf3⟩
      have b2 := hf3.keep a2.1
      have hfb := hfa.trans hf3
      clear a1 a2
      cases bD with
      | true =>
        go_wp2_with fail
        go_ret
        exact ⟨ret_int (eD.out (by trivial) (by trivial)).symm, (hf.trans hfr).trans hfb⟩
      | false =>
      go_wp2_with fail
      refine (hck.out _ hfb).mono ?_
      rintro e w4 ⟨rfl, hf4⟩
      have c2 := hf4.keep b2
      have c4 := (hfb.trans hf4).keep hc4
      have hfc := hfb.trans hf4
      clear b2 hcf hck hN hc1 hc2 hc4 hfa hfb hf3 hf4
      by_cases h3 : bR ≠ 0
      · have q1 : (bR != 0) = true := by rw [bne_iff_ne]; exact h3
        go_wp2_with fail
        go_ret
        exact ⟨ret_int (eR.out (by trivial) (by trivial) h3).symm, (hf.trans hfr).trans hfc⟩
      replace h3 : bR = 0 := Decidable.of_not_not h3
      have q1 : (bR != 0) = false := by rw [h3]; rfl
      replace h3 := Lib.hid h3
      by_cases h4 : 12 < d
      · have q2 : decide ((12 : Int) < (d : Int)) = true := decide_eq_true (by omega)
        go_wp2_with fail
        go_ret
        exact ⟨ret_int (eL.out (by trivial) (by trivial) h3.out h4).symm, (hf.trans hfr).trans hfc⟩
      have q2 : decide ((12 : Int) < (d : Int)) = false := decide_eq_false (by omega)
      by_cases h5 : d ≠ d0
      · have q3 : ((d : Int) != (d0 : Int)) = true := by rw [bne_iff_ne]; omega
        go_wp2_with fail
        go_quiet (fail)
        go_wp2_with fail
        go_ret
        exact ⟨ret_int (eS.out (by trivial) (by trivial) h3.out h4 (by rw [hd0.out]; exact h5)).symm, (hf.trans hfr).trans (hfc.drewN _)⟩
      replace h5 : d = d0 := Decidable.of_not_not h5
      have q3 : ((d : Int) != (d0 : Int)) = false := by rw [h5]; simp
      have hO := Lib.hid (eO.out (by trivial) (by trivial) h3.out h4 (by rw [hd0.out]; exact h5))
      clear eN eD eR eL eS eO
      replace h5 := Lib.hid h5
      go_wp2_with fail
      go_quiet (fail)
      go_wp2_with fail
      go_roundg k1
      case measure => omega
      case rel => exact ⟨i + 1, by go_num, by omega, hO.out, (hfr.trans hfc).drewN _⟩
    · have hdI : decide (i < T) = false := decide_eq_false hi
      obtain rfl : gk = 0 := by omega
      have hfin := Lib.hid (show (0 : Int) = E from hsc)
      go_wp2_with fail
      go_ret
      exact ⟨ret_int hfin.out, hf.trans hfr⟩
end Go.Proofs.YtbpfkmpkadimeaaGreatDoor

/- Lists of digits to the base 1000000000: plain laws of trim, plus, minus, above. -/
namespace Go.Proofs.YtbpfkmpkadimeaaGreatDoor
open Go.RowKit Go.Lib

/-- the digits of a number, the least first -/
def digs (n : Nat) : List Int := if h : n = 0 then [] else ((n % 1000000000 : Nat) : Int) :: digs (n / 1000000000)
termination_by n
decreasing_by omega
def Dg (l : List Int) : Prop := ∀ d, d ∈ l → 0 ≤ d ∧ d < 1000000000
def val : List Int → Int
  | [] => 0
  | d :: l => d + 1000000000 * val l

theorem digs_zero : digs 0 = [] := by rw [digs]; rfl
theorem digs_pos {n : Nat} (h : 0 < n) : digs n = ((n % 1000000000 : Nat) : Int) :: digs (n / 1000000000) := by rw [digs, dif_neg (by omega)]
theorem digs_one {n : Nat} (h : 0 < n) (h2 : n < 1000000000) : digs n = [(n : Int)] := by
  rw [digs_pos h, Nat.mod_eq_of_lt h2, Nat.div_eq_of_lt h2, digs_zero]
theorem digs_nil {n : Nat} : digs n = [] ↔ n = 0 := by
  constructor
  · intro h
    by_cases h0 : n = 0
    · exact h0
    · rw [digs_pos (by omega)] at h; exact absurd h (by simp)
  · rintro rfl; exact digs_zero
theorem digs_dg : ∀ n, Dg (digs n) := fun n => by
  induction n using Nat.strongRecOn with
  | _ n ih =>
    by_cases h : n = 0
    · subst h; rw [digs_zero]; intro d hd; simp at hd
    · rw [digs_pos (by omega)]
      intro d hd
      rcases List.mem_cons.1 hd with rfl | hd
      · omega
      · exact ih _ (by omega) d hd
theorem val_digs : ∀ n : Nat, val (digs n) = n := fun n => by
  induction n using Nat.strongRecOn with
  | _ n ih =>
    by_cases h : n = 0
    · subst h; rw [digs_zero]; rfl
    · rw [digs_pos (by omega)]
      show ((n % 1000000000 : Nat) : Int) + 1000000000 * val (digs (n / 1000000000)) = n
      rw [ih _ (by omega)]
      omega
theorem digs_inj {n m : Nat} (h : digs n = digs m) : n = m := by
  have := val_digs n; rw [h, val_digs] at this; omega
theorem digs_len : ∀ (k n : Nat), n < 1000000000 ^ k → (digs n).length ≤ k
  | 0, n, h => by have : n = 0 := by simpa using h
                  subst this; rw [digs_zero]; simp
  | k + 1, n, h => by
    by_cases h0 : n = 0
    · subst h0; rw [digs_zero]; simp
    · rw [digs_pos (by omega)]
      have := digs_len k (n / 1000000000) (by rw [Nat.div_lt_iff_lt_mul (by decide)]; rw [Nat.pow_succ] at h; exact h)
      simp; omega
theorem Dg.cons {d : Int} {l : List Int} (h : Dg (d :: l)) : (0 ≤ d ∧ d < 1000000000) ∧ Dg l := ⟨h d (by simp), fun x hx => h x (by simp [hx])⟩
theorem Dg.mk {d : Int} {l : List Int} (h : 0 ≤ d ∧ d < 1000000000) (k : Dg l) : Dg (d :: l) := fun x hx => by
  rcases List.mem_cons.1 hx with rfl | hx
  · exact h
  · exact k x hx
theorem val_nn : ∀ {l : List Int}, Dg l → 0 ≤ val l
  | [], _ => by show (0 : Int) ≤ 0; omega
  | d :: l, h => by
    have h1 := h.cons
    have := val_nn h1.2
    show 0 ≤ d + 1000000000 * val l
    omega

/-! ### trim -/
def trimL : List Int → List Int
  | [] => []
  | d :: l => if trimL l = [] ∧ d = 0 then [] else d :: trimL l
theorem digs_cons (x : Nat) : (if digs (x / 1000000000) = [] ∧ ((x % 1000000000 : Nat) : Int) = 0 then [] else ((x % 1000000000 : Nat) : Int) :: digs (x / 1000000000)) = digs x := by
  by_cases h : x = 0
  · subst h; rw [if_pos ⟨by show digs 0 = []; exact digs_zero, by simp⟩, digs_zero]
  · rw [digs_pos (n := x) (by omega), if_neg]
    rintro ⟨h1, h2⟩
    rw [digs_nil] at h1
    omega
theorem trimL_digs : ∀ {l : List Int}, Dg l → trimL l = digs (val l).toNat
  | [], _ => by show [] = digs 0; rw [digs_zero]
  | d :: l, h => by
    have h1 := h.cons
    have h2 := val_nn h1.2
    show (if trimL l = [] ∧ d = 0 then [] else d :: trimL l) = digs (d + 1000000000 * val l).toNat
    rw [trimL_digs h1.2, ← digs_cons (d + 1000000000 * val l).toNat, show (d + 1000000000 * val l).toNat / 1000000000 = (val l).toNat by omega, show (((d + 1000000000 * val l).toNat % 1000000000 : Nat) : Int) = d by omega]
theorem trimL_fix (n : Nat) : trimL (digs n) = digs n := by rw [trimL_digs (digs_dg n), val_digs]; rfl
theorem trimL_zero : ∀ l : List Int, trimL (l ++ [0]) = trimL l
  | [] => rfl
  | d :: l => by
    show (if trimL (l ++ [0]) = [] ∧ d = 0 then [] else d :: trimL (l ++ [0])) = _
    rw [trimL_zero l]; rfl
theorem trimL_snoc {d : Int} (hd : d ≠ 0) : ∀ l : List Int, trimL (l ++ [d]) = l ++ [d]
  | [] => by show (if trimL [] = [] ∧ d = 0 then [] else d :: trimL []) = _; rw [if_neg (fun h => hd h.2)]; rfl
  | x :: l => by
    show (if trimL (l ++ [d]) = [] ∧ x = 0 then [] else x :: trimL (l ++ [d])) = _
    rw [trimL_snoc hd l, if_neg (fun h => by simp at h)]; rfl

/-! ### plus, minus -/
def plusL : List Int → List Int → Int → List Int
  | a :: az, b :: bs, c => ((c + a + b) % 1000000000) :: plusL az bs ((c + a + b) / 1000000000)
  | a :: az, [], c => ((c + a) % 1000000000) :: plusL az [] ((c + a) / 1000000000)
  | [], b :: bs, c => ((c + b) % 1000000000) :: plusL [] bs ((c + b) / 1000000000)
  | [], [], c => if 0 < c then [c] else []
theorem plusL_cc (a b c : Int) (az bs : List Int) : plusL (a :: az) (b :: bs) c = ((c + a + b) % 1000000000) :: plusL az bs ((c + a + b) / 1000000000) := by rw [plusL]
theorem plusL_cn (a c : Int) (az : List Int) : plusL (a :: az) [] c = ((c + a) % 1000000000) :: plusL az [] ((c + a) / 1000000000) := by rw [plusL]
theorem plusL_nc (b c : Int) (bs : List Int) : plusL [] (b :: bs) c = ((c + b) % 1000000000) :: plusL [] bs ((c + b) / 1000000000) := by rw [plusL]
theorem plusL_nn (c : Int) : plusL [] [] c = if 0 < c then [c] else [] := by rw [plusL]
theorem plusL_digs : ∀ (s n m : Nat) (c : Nat), n + m ≤ s → c ≤ 1 → plusL (digs n) (digs m) c = digs (n + m + c) := fun s => by
  induction s using Nat.strongRecOn with
  | _ s ih =>
    intro n m c hs hc
    by_cases hn : n = 0
    · subst hn
      by_cases hm : m = 0
      · subst hm
        rw [digs_zero]
        rcases (show c = 0 ∨ c = 1 by omega) with rfl | rfl
        · rw [show (0 + 0 + 0 : Nat) = 0 from rfl, digs_zero, plusL_nn]; rfl
        · rw [show (0 + 0 + 1 : Nat) = 1 from rfl, digs_one (by decide) (by decide), plusL_nn]; rfl
      · rw [digs_zero, digs_pos (n := m) (by omega), digs_pos (n := 0 + m + c) (by omega)]
        rw [plusL_nc]
        have e := ih (m / 1000000000) (by omega) 0 (m / 1000000000) ((c + m % 1000000000) / 1000000000) (by omega) (by omega)
        rw [digs_zero] at e
        rw [show ((c : Int) + ((m % 1000000000 : Nat) : Int)) / 1000000000 = (((c + m % 1000000000) / 1000000000 : Nat) : Int) by omega, e]
        congr 1
        · omega
        · congr 1; omega
    · by_cases hm : m = 0
      · subst hm
        rw [digs_zero, digs_pos (n := n) (by omega), digs_pos (n := n + 0 + c) (by omega)]
        rw [plusL_cn]
        have e := ih (n / 1000000000) (by omega) (n / 1000000000) 0 ((c + n % 1000000000) / 1000000000) (by omega) (by omega)
        rw [digs_zero] at e
        rw [show ((c : Int) + ((n % 1000000000 : Nat) : Int)) / 1000000000 = (((c + n % 1000000000) / 1000000000 : Nat) : Int) by omega, e]
        congr 1
        · omega
        · congr 1; omega
      · rw [digs_pos (n := n) (by omega), digs_pos (n := m) (by omega), digs_pos (n := n + m + c) (by omega)]
        rw [plusL_cc]
        have e := ih (n / 1000000000 + m / 1000000000) (by omega) (n / 1000000000) (m / 1000000000) ((c + n % 1000000000 + m % 1000000000) / 1000000000) (by omega) (by omega)
        rw [show ((c : Int) + ((n % 1000000000 : Nat) : Int) + ((m % 1000000000 : Nat) : Int)) / 1000000000 = (((c + n % 1000000000 + m % 1000000000) / 1000000000 : Nat) : Int) by omega, e]
        congr 1
        · omega
        · congr 1; omega
def subD (d : Int) : Int := if d < 0 then d + 1000000000 else d
def subB (d : Int) : Int := if d < 0 then 1 else 0
def minusL : List Int → List Int → Int → List Int
  | a :: az, b :: bs, w => subD (a - w - b) :: minusL az bs (subB (a - w - b))
  | a :: az, [], w => subD (a - w) :: minusL az [] (subB (a - w))
  | [], _, _ => []
theorem minusL_cc (a b w : Int) (az bs : List Int) : minusL (a :: az) (b :: bs) w = subD (a - w - b) :: minusL az bs (subB (a - w - b)) := by rw [minusL]
theorem minusL_cn (a w : Int) (az : List Int) : minusL (a :: az) [] w = subD (a - w) :: minusL az [] (subB (a - w)) := by rw [minusL]
theorem minusL_n (b : List Int) (w : Int) : minusL [] b w = [] := by rw [minusL]
theorem minusL_digs : ∀ (n m w : Nat), m + w ≤ n → w ≤ 1 → trimL (minusL (digs n) (digs m) w) = digs (n - m - w) := fun n => by
  induction n using Nat.strongRecOn with
  | _ n ih =>
    intro m w hs hw
    by_cases hn : n = 0
    · subst hn
      obtain rfl : m = 0 := by omega
      obtain rfl : w = 0 := by omega
      rw [digs_zero, minusL_n]; rfl
    · have key : ∀ (d : Int) (r : List Int) (v : Nat), d = (n : Int) % 1000000000 - w - (m : Int) % 1000000000 → subB d = v → trimL r = digs (n / 1000000000 - m / 1000000000 - v) → trimL (subD d :: r) = digs (n - m - w) := fun d r v hd hv hr => by
        show (if trimL r = [] ∧ subD d = 0 then [] else subD d :: trimL r) = _
        rw [hr, ← digs_cons (n - m - w)]
        unfold subB at hv
        unfold subD
        by_cases h0 : d < 0
        · rw [if_pos h0] at hv ⊢
          rw [show (n - m - w) / 1000000000 = n / 1000000000 - m / 1000000000 - v by omega, show (((n - m - w) % 1000000000 : Nat) : Int) = d + 1000000000 by omega]
        · rw [if_neg h0] at hv ⊢
          rw [show (n - m - w) / 1000000000 = n / 1000000000 - m / 1000000000 - v by omega, show (((n - m - w) % 1000000000 : Nat) : Int) = d by omega]
      by_cases hm : m = 0
      · subst hm
        rw [digs_zero, digs_pos (n := n) (by omega)]
        rw [minusL_cn]
        obtain ⟨v, hv⟩ : ∃ v : Nat, subB (((n % 1000000000 : Nat) : Int) - w) = v := ⟨(subB (((n % 1000000000 : Nat) : Int) - w)).toNat, by unfold subB; split <;> rfl⟩
        have hv2 := hv
        unfold subB at hv2
        rw [hv]
        refine key _ _ v (by omega) hv ?_
        have e := ih (n / 1000000000) (by omega) 0 v (by split at hv2 <;> omega) (by split at hv2 <;> omega)
        rw [digs_zero] at e
        rw [e]
      · rw [digs_pos (n := n) (by omega), digs_pos (n := m) (by omega)]
        rw [minusL_cc]
        obtain ⟨v, hv⟩ : ∃ v : Nat, subB (((n % 1000000000 : Nat) : Int) - w - ((m % 1000000000 : Nat) : Int)) = v := ⟨(subB (((n % 1000000000 : Nat) : Int) - w - ((m % 1000000000 : Nat) : Int))).toNat, by unfold subB; split <;> rfl⟩
        have hv2 := hv
        unfold subB at hv2
        rw [hv]
        refine key _ _ v (by omega) hv ?_
        exact ih (n / 1000000000) (by omega) (m / 1000000000) v (by split at hv2 <;> omega) (by split at hv2 <;> omega)

/-! ### above -/
theorem len_mono : ∀ (n m : Nat), (digs n).length < (digs m).length → n < m := fun n => by
  induction n using Nat.strongRecOn with
  | _ n ih =>
    intro m h
    by_cases hm : m = 0
    · subst hm; rw [digs_zero] at h; simp at h
    · by_cases hn : n = 0
      · omega
      · rw [digs_pos (n := n) (by omega), digs_pos (n := m) (by omega)] at h
        have := ih (n / 1000000000) (by omega) (m / 1000000000) (by simpa using h)
        omega
theorem val_drop : ∀ (i : Nat) (a b : List Int), Dg a → Dg b → a.length = b.length → (∀ x y, a[i]? = some x → b[i]? = some y → x < y) → i < a.length → a.drop (i + 1) = b.drop (i + 1) → val a < val b
  | 0, x :: a, y :: b, ha, hb, _, h, _, hd => by
    have h1 := h x y rfl rfl
    have h2 : a = b := by simpa using hd
    subst h2
    show x + _ < y + _
    omega
  | i + 1, x :: a, y :: b, ha, hb, hl, h, hi, hd => by
    have := val_drop i a b ha.cons.2 hb.cons.2 (by simpa using hl) (fun u v hu hv => h u v (by simpa using hu) (by simpa using hv)) (by simpa using hi) (by simpa using hd)
    have h1 := ha.cons.1
    have h2 := hb.cons.1
    show x + 1000000000 * val a < y + 1000000000 * val b
    omega
  | _, [], _, _, _, _, _, hi, _ => by simp at hi
  | _, _ :: _, [], _, _, hl, _, _, _ => by simp at hl
/-- how two numbers compare -/
def sgnC (n m : Nat) : Int := if n < m then -1 else if m < n then 1 else 0
end Go.Proofs.YtbpfkmpkadimeaaGreatDoor

/- schismaref03.trim. -/
namespace Go.Proofs.YtbpfkmpkadimeaaGreatDoor
open Go.RowKit Go.Lib
attribute [local go_sem ↓] Go.wp_at_zero Go.wp_at_succ

theorem two_store (wr : World) (r : Nat) (u v u0 v0 : Value) (h0 : wr.cell? ⟨r, 0, none⟩ = some u0) (h1 : wr.cell? ⟨r, 1, none⟩ = some v0) :
    ((wr.setCell ⟨r, 0, none⟩ u).setCell ⟨r, 1, none⟩ v).cell? ⟨r, 0, none⟩ = some u ∧ ((wr.setCell ⟨r, 0, none⟩ u).setCell ⟨r, 1, none⟩ v).cell? ⟨r, 1, none⟩ = some v ∧
      (wr.setCell ⟨r, 0, none⟩ u).cell? ⟨r, 1, none⟩ = some v0 ∧ Fx (· = r) wr ((wr.setCell ⟨r, 0, none⟩ u).setCell ⟨r, 1, none⟩ v) := by
  have e1 : (⟨r, 0, none⟩ : Addr) ≠ ⟨r, 1, none⟩ := fun e => by injection e with _ e; omega
  refine ⟨?_, ?_, ?_, Fx.setCell (p := (· = r)) (q := ⟨r, 1, none⟩) (Fx.setCell (p := (· = r)) (q := ⟨r, 0, none⟩) (Fx.refl _ _) (.inl rfl) u) (.inl rfl) v⟩
  · rw [World.cell?_setCell_other _ _ _ _ (fun e => e1 e.symm)]; exact World.cell?_setCell_same' _ _ _ (by rw [h0]; rfl)
  · exact World.cell?_setCell_same' _ _ _ (by rw [World.cell?_setCell_other _ _ _ _ e1, h1]; rfl)
  · rw [World.cell?_setCell_other _ _ _ _ e1]; exact h1
theorem El.take {w : World} {a : Option Addr} {xs : List Int} (h : El w iv a xs) (k : Nat) : El w iv a (xs.take k) := by
  rcases h with h | ⟨b, o, ha, hb, hc⟩
  · exact .inl (by rw [h]; simp)
  · refine .inr ⟨b, o, ha, hb, fun i x hx => hc i x ?_⟩
    rw [List.getElem?_take] at hx
    split at hx
    · exact hx
    · cases hx
theorem trimL_take {l : List Int} {k : Nat} {d : Int} (h : l[k]? = some d) (hd : d = 0) : trimL (l.take (k + 1)) = trimL (l.take k) := by
  rw [take_snoc h, hd]; exact trimL_zero _
theorem trimL_stop {l : List Int} {k : Nat} {d : Int} (h : l[k]? = some d) (hd : d ≠ 0) : trimL (l.take (k + 1)) = l.take (k + 1) := by
  rw [take_snoc h]; exact trimL_snoc hd _

/-- the loop's word: the first k digits are left -/
structure TrimI (neg : Bool) (a : Option Addr) (cap : Nat) (l : List Int) (wb : World) (p k : Nat) (wr : World) : Prop where
  le : k ≤ l.length
  eq : trimL (l.take k) = trimL l
  c0 : wr.cell? ⟨p, 0, none⟩ = some (.bool neg)
  c1 : wr.cell? ⟨p, 1, none⟩ = some (.slice a k cap)
  f0 : wr.frozen? ⟨p, 0, none⟩ = false
  f1 : wr.frozen? ⟨p, 1, none⟩ = false
  fx : Fx (· = p) wb wr

theorem TrimI.step {neg : Bool} {a : Option Addr} {cap : Nat} {l : List Int} {wb : World} {p k : Nat} {wr : World} (h : TrimI neg a cap l wb p (k + 1) wr) (hk : l[k]? = some 0) : TrimI neg a cap l wb p k (wr.setCell ⟨p, 1, none⟩ (.slice a k cap)) := by
  have e1 : (⟨p, 0, none⟩ : Addr) ≠ ⟨p, 1, none⟩ := fun e => by injection e with _ e; omega
  refine ⟨by have := h.le; omega, by rw [← h.eq]; exact (trimL_take hk rfl).symm, ?_, World.cell?_setCell_same' _ _ _ (by rw [h.c1]; rfl), by rw [World.frozen?_setCell]; exact h.f0, by rw [World.frozen?_setCell]; exact h.f1, Fx.setCell (p := (· = p)) (q := ⟨p, 1, none⟩) h.fx (.inl rfl) _⟩
  rw [World.cell?_setCell_other _ _ _ _ (fun e => e1 e.symm)]; exact h.c0
set_option maxHeartbeats 1000000 in
theorem trim_any (neg : Bool) (a : Option Addr) (cap : Nat) (l : List Int) (w : World) (hel : El w iv a l) (hl : l.length ≤ 1000000) (hc : l.length ≤ cap) :
    Calls Tryz.prog 117 #[.agg #[.bool neg, .slice a l.length cap]] w fun e w' => e = .returned (.agg #[.bool (neg && decide (0 < (trimL l).length)), .slice a (trimL l).length cap]) ∧ Fr w w' := by
  obtain ⟨n, hn⟩ : ∃ n, n = l.length := ⟨_, rfl⟩
  rw [← hn] at hl hc
  rw [← hn]
  replace hn := Lib.hid hn
  go_enter Tryz.func117, Tryz.ntmps117
  go_wp2_with fail
  obtain ⟨wb, hwb⟩ : ∃ wb, wb = alls w [(.cells #[.bool neg, .slice a n cap] 107), (.cells #[.bool false, .slice none 0 0] 107)] := ⟨_, rfl⟩
  have g0 : wb.heap[w.heap.size]? = some (.cells #[.bool neg, .slice a n cap] 107 (0, 0)) := by rw [hwb]; exact alls_get _ w 0 _ rfl
  have g1 : wb.heap[w.heap.size + 1]? = some (.cells #[.bool false, .slice none 0 0] 107 (0, 0)) := by rw [hwb]; exact alls_get _ w 1 _ rfl
  have hfb : Fr w wb := by rw [hwb]; exact alls_fr _ w
  change Code.wp _ _ _ _ (alls w [(.cells #[.bool neg, .slice a n cap] 107), (.cells #[.bool false, .slice none 0 0] 107)])
  rw [← hwb]
  have hI0 : TrimI neg a cap l wb w.heap.size n wb := by
    refine ⟨by rw [hn.out]; exact Nat.le_refl _, by rw [hn.out, List.take_length], by rw [cells_of g0]; rfl, by rw [cells_of g0]; rfl, ?_, ?_, Fx.refl _ _⟩
    · unfold World.frozen?; rw [g0]; rfl
    · unfold World.frozen?; rw [g0]; rfl
  replace hI0 := Lib.hid hI0
  replace g1 := Lib.hid g1
  replace hfb := Lib.hid hfb
  clear g0 hwb
  go_loopg [3] n (fun k _ wr => Hid (TrimI neg a cap l wb w.heap.size k wr))
  case atStart => exact hI0
  case round =>
    clear hI0
    have hf : Fr w wr := ((Fx.of_fr hfb.out).trans hrel.out.fx).toFr (fun k hk e => by have e : k = w.heap.size := e; omega)
    have hfe := hel.fr hf
    have h1 := hrel.out.c0
    have h2 := hrel.out.c1
    have h3 := hrel.out.f0
    have h4 := hrel.out.f1
    have h9 := (hrel.out.fx.block _ (lt_of_heap g1.out) (by show ¬ w.heap.size + 1 = w.heap.size; omega)).trans g1.out
    have r0 : wr.cell? ⟨w.heap.size + 1, 0, none⟩ = some (.bool false) := cells_of h9 0
    have r1 : wr.cell? ⟨w.heap.size + 1, 1, none⟩ = some (.slice none 0 0) := cells_of h9 1
    have r2 : wr.frozen? ⟨w.heap.size + 1, 0, none⟩ = false := by unfold World.frozen?; rw [h9]; rfl
    have r3 : wr.frozen? ⟨w.heap.size + 1, 1, none⟩ = false := by unfold World.frozen?; rw [h9]; rfl
    clear h9
    have hle := hrel.out.le
    rw [← hn.out] at hle
    by_cases hk0 : gk = 0
    · subst hk0
      have hlen : (trimL l).length = 0 := by rw [← hrel.out.eq]; simp [trimL]
      cases neg with
      | false =>
        have hs0 : Fx (· = w.heap.size) wr (wr.setCell ⟨w.heap.size, 0, none⟩ (.bool false)) := Fx.setCell (p := (· = w.heap.size)) (q := ⟨w.heap.size, 0, none⟩) (Fx.refl _ _) (.inl rfl) _
        have ne1 : ¬ w.heap.size + 1 = w.heap.size := by omega
        have t0 := hs0.keep r0 ne1
        have t1 := hs0.keep r1 ne1
        have ts := two_store (wr.setCell ⟨w.heap.size, 0, none⟩ (.bool false)) (w.heap.size + 1) (.bool false) (.slice (a) (0) cap) _ _ t0 t1
        have hfin := Lib.hid (show Fr w (((wr.setCell ⟨w.heap.size, 0, none⟩ (.bool false)).setCell ⟨w.heap.size + 1, 0, none⟩ (.bool false)).setCell ⟨w.heap.size + 1, 1, none⟩ (.slice (a) (0) cap)) from ((Fx.of_fr (p := fun q => w.heap.size ≤ q) hf).trans ((hs0.mono (fun q e => by have e : q = w.heap.size := e; omega)).trans (ts.2.2.2.mono (fun q e => by have e : q = w.heap.size + 1 := e; omega)))).toFr (fun q hq e => by have e : w.heap.size ≤ q := e; omega))
        have q0 := Lib.hid ts.1
        have q1 := Lib.hid ts.2.1
        clear ts hs0 ne1 t0 t1
        go_wp2_with fail
        have u0 := q0.out
        have u1 := q1.out
        refine bodyPost_ret (v := .agg #[.bool false, .slice (a) (0) cap]) (by simp [results, Tryz.results117, go_sem, u0, u1]) rfl ⟨?_, hfin.out⟩
        rw [hlen]; simp
      | true =>
        have hs0 : Fx (· = w.heap.size) wr (wr.setCell ⟨w.heap.size, 0, none⟩ (.bool false)) := Fx.setCell (p := (· = w.heap.size)) (q := ⟨w.heap.size, 0, none⟩) (Fx.refl _ _) (.inl rfl) _
        have ne1 : ¬ w.heap.size + 1 = w.heap.size := by omega
        have t0 := hs0.keep r0 ne1
        have t1 := hs0.keep r1 ne1
        have ts := two_store (wr.setCell ⟨w.heap.size, 0, none⟩ (.bool false)) (w.heap.size + 1) (.bool false) (.slice (a) (0) cap) _ _ t0 t1
        have hfin := Lib.hid (show Fr w (((wr.setCell ⟨w.heap.size, 0, none⟩ (.bool false)).setCell ⟨w.heap.size + 1, 0, none⟩ (.bool false)).setCell ⟨w.heap.size + 1, 1, none⟩ (.slice (a) (0) cap)) from ((Fx.of_fr (p := fun q => w.heap.size ≤ q) hf).trans ((hs0.mono (fun q e => by have e : q = w.heap.size := e; omega)).trans (ts.2.2.2.mono (fun q e => by have e : q = w.heap.size + 1 := e; omega)))).toFr (fun q hq e => by have e : w.heap.size ≤ q := e; omega))
        have q0 := Lib.hid ts.1
        have q1 := Lib.hid ts.2.1
        clear ts hs0 ne1 t0 t1
        go_wp2_with fail
        have u0 := q0.out
        have u1 := q1.out
        refine bodyPost_ret (v := .agg #[.bool false, .slice (a) (0) cap]) (by simp [results, Tryz.results117, go_sem, u0, u1]) rfl ⟨?_, hfin.out⟩
        rw [hlen]; simp
    · obtain ⟨k, rfl⟩ : ∃ k, gk = k + 1 := ⟨gk - 1, by omega⟩
      obtain ⟨b, o, d, rfl, hb, hk, hcell⟩ := hfe.at (i := k) (by have := hn.out; omega)
      have z0 : (0 : Int) ≤ (k : Int) := by omega
      have z1 : (k : Int) ≤ (cap : Int) := by omega
      have z2 : decide ((0 : Int) < (k : Int) + 1) = true := decide_eq_true (by omega)
      by_cases hd : d = 0
      · have hrel2 := hrel.out
        subst hd
        go_wp2_with fail
        go_roundg k
        case measure => omega
        case rel => exact hrel2.step hk
      · have hlen : (trimL l).length = k + 1 := by rw [← hrel.out.eq, trimL_stop hk hd, List.length_take]; have := hn.out; omega
        have hdd : ((d : Int) == 0) = false := by rw [beq_eq_false_iff_ne]; exact hd
        cases neg with
        | false =>
          have hs0 : Fx (· = w.heap.size) wr (wr.setCell ⟨w.heap.size, 0, none⟩ (.bool false)) := Fx.setCell (p := (· = w.heap.size)) (q := ⟨w.heap.size, 0, none⟩) (Fx.refl _ _) (.inl rfl) _
          have ne1 : ¬ w.heap.size + 1 = w.heap.size := by omega
          have t0 := hs0.keep r0 ne1
          have t1 := hs0.keep r1 ne1
          have ts := two_store (wr.setCell ⟨w.heap.size, 0, none⟩ (.bool false)) (w.heap.size + 1) (.bool false) (.slice (some ⟨b, o, none⟩) (k + 1) cap) _ _ t0 t1
          have hfin := Lib.hid (show Fr w (((wr.setCell ⟨w.heap.size, 0, none⟩ (.bool false)).setCell ⟨w.heap.size + 1, 0, none⟩ (.bool false)).setCell ⟨w.heap.size + 1, 1, none⟩ (.slice (some ⟨b, o, none⟩) (k + 1) cap)) from ((Fx.of_fr (p := fun q => w.heap.size ≤ q) hf).trans ((hs0.mono (fun q e => by have e : q = w.heap.size := e; omega)).trans (ts.2.2.2.mono (fun q e => by have e : q = w.heap.size + 1 := e; omega)))).toFr (fun q hq e => by have e : w.heap.size ≤ q := e; omega))
          have q0 := Lib.hid ts.1
          have q1 := Lib.hid ts.2.1
          clear ts hs0 ne1 t0 t1
          go_wp2_with fail
          have u0 := q0.out
          have u1 := q1.out
          refine bodyPost_ret (v := .agg #[.bool false, .slice (some ⟨b, o, none⟩) (k + 1) cap]) (by simp [results, Tryz.results117, go_sem, u0, u1]) rfl ⟨?_, hfin.out⟩
          rw [hlen]; simp
        | true =>
          have hs0 : Fx (· = w.heap.size) wr (wr.setCell ⟨w.heap.size, 0, none⟩ (.bool true)) := Fx.setCell (p := (· = w.heap.size)) (q := ⟨w.heap.size, 0, none⟩) (Fx.refl _ _) (.inl rfl) _
          have ne1 : ¬ w.heap.size + 1 = w.heap.size := by omega
          have t0 := hs0.keep r0 ne1
          have t1 := hs0.keep r1 ne1
          have ts := two_store (wr.setCell ⟨w.heap.size, 0, none⟩ (.bool true)) (w.heap.size + 1) (.bool true) (.slice (some ⟨b, o, none⟩) (k + 1) cap) _ _ t0 t1
          have hfin := Lib.hid (show Fr w (((wr.setCell ⟨w.heap.size, 0, none⟩ (.bool true)).setCell ⟨w.heap.size + 1, 0, none⟩ (.bool true)).setCell ⟨w.heap.size + 1, 1, none⟩ (.slice (some ⟨b, o, none⟩) (k + 1) cap)) from ((Fx.of_fr (p := fun q => w.heap.size ≤ q) hf).trans ((hs0.mono (fun q e => by have e : q = w.heap.size := e; omega)).trans (ts.2.2.2.mono (fun q e => by have e : q = w.heap.size + 1 := e; omega)))).toFr (fun q hq e => by have e : w.heap.size ≤ q := e; omega))
          have q0 := Lib.hid ts.1
          have q1 := Lib.hid ts.2.1
          clear ts hs0 ne1 t0 t1
          go_wp2_with fail
          have u0 := q0.out
          have u1 := q1.out
          refine bodyPost_ret (v := .agg #[.bool true, .slice (some ⟨b, o, none⟩) (k + 1) cap]) (by simp [results, Tryz.results117, go_sem, u0, u1]) rfl ⟨?_, hfin.out⟩
          rw [hlen]; simp
end Go.Proofs.YtbpfkmpkadimeaaGreatDoor

/- Where spelling.Check has an error, the other functions have it too. -/
namespace Go.Proofs.YtbpfkmpkadimeaaGreatDoor
open Go.RowKit Go.Lib
attribute [local go_sem ↓] Go.wp_at_zero Go.wp_at_succ

/-- spelling.Check answers with an error -/
def ChkBad (w : World) (er : Int) (aN aA : Option Addr) (nN cN nA cA : Nat) : Prop :=
  ∀ W, Fr w W → Calls Tryz.prog 21 #[.agg #[.slice aN nN cN, .slice aA nA cA]] W fun e w' => e = .returned (.int .i64 er) ∧ Fr W w'
theorem ChkBad.fr {w w' : World} {er : Int} {aN aA : Option Addr} {nN cN nA cA : Nat} (h : ChkBad w er aN aA nN cN nA cA) (k : Fr w w') : ChkBad w' er aN aA nN cN nA cA := fun W hW => h W (k.trans hW)

theorem open_err (er : Int) (aN aA a : Option Addr) (nN cN nA cA k c : Nat) (w : World) (hC : ChkBad w er aN aA nN cN nA cA) (he : er ≠ 0) :
    Calls Tryz.prog 63 #[.agg #[.slice aN nN cN, .slice aA nA cA], .slice a k c] w fun e w' => e = .returned (.int .i64 er) ∧ Fr w w' := by
  have d1 : (er != 0) = true := bne_iff_ne.2 he
  have hfA : Fr w (w.alloc (.cells #[.slice aN nN cN, .slice aA nA cA] 31)) := (Fr.refl w).alloc _
  replace hC := Lib.hid (hC _ hfA)
  replace hfA := Lib.hid hfA
  replace he := Lib.hid he
  go_enter Tryz.func63, Tryz.ntmps63
  go_wp2_with fail
  refine hC.out.mono ?_
  rintro e w2 ⟨rfl, hf2⟩
  go_wp2_with fail
  go_ret
  exact ⟨rfl, hfA.out.trans hf2⟩

set_option maxHeartbeats 1000000 in
theorem Read_err (er : Int) (aN aA : Option Addr) (nN cN nA cA : Nat) (i : Int) (ca : Option Addr) (cl cc : Nat) (w : World) (hC : ChkBad w er aN aA nN cN nA cA) (he : er ≠ 0) :
    Calls Tryz.prog 23 #[.agg #[.slice aN nN cN, .slice aA nA cA], .agg #[.int .i64 i, .slice ca cl cc]] w fun e w' => e = .returned (.tuple #[.slice none 0 0, .int .i64 er]) ∧ Fr w w' := by
  have d1 : (er != 0) = true := bne_iff_ne.2 he
  have hop := fun W (hW : Fr w W) a k c => open_err er aN aA a nN cN nA cA k c W (hC.fr hW) he
  have hfA : Fr w ((w.alloc (.cells #[.slice aN nN cN, .slice aA nA cA] 31)).alloc (.cells #[.int .i64 i, .slice ca cl cc] 50)) := ((Fr.refl w).alloc _).alloc _
  replace hop := Lib.hid hop
  replace hfA := Lib.hid hfA
  replace he := Lib.hid he
  clear hC
  go_enter Tryz.func23, Tryz.ntmps23
  go_wp2_with fail
  refine (hop.out _ (hfA.out.alloc _) _ _ _).mono ?_
  rintro e w2 ⟨rfl, hf2⟩
  go_wp2_with fail
  go_ret2
  exact ⟨rfl, (hfA.out.alloc _).trans hf2⟩

set_option maxHeartbeats 1000000 in
theorem All_err (er : Int) (aN aA ra : Option Addr) (nN cN nA cA rl rc : Nat) (most : Int) (w : World) (hC : ChkBad w er aN aA nN cN nA cA) (he : er ≠ 0) :
    Calls Tryz.prog 24 #[.agg #[.slice aN nN cN, .slice aA nA cA], .slice ra rl rc, .int .i64 most] w fun e w' => e = .returned (.tuple #[.slice none 0 0, .int .i64 er]) ∧ Fr w w' := by
  have d1 : (er != 0) = true := bne_iff_ne.2 he
  have hfA : Fr w (w.alloc (.cells #[.slice aN nN cN, .slice aA nA cA] 31)) := (Fr.refl w).alloc _
  replace hC := Lib.hid (hC _ hfA)
  replace hfA := Lib.hid hfA
  replace he := Lib.hid he
  go_enter Tryz.func24, Tryz.ntmps24
  go_wp2_with fail
  refine hC.out.mono ?_
  rintro e w2 ⟨rfl, hf2⟩
  go_wp2_with fail
  go_ret2
  exact ⟨rfl, hfA.out.trans hf2⟩

set_option maxHeartbeats 1000000 in
theorem Enharmonic_err (er : Int) (aN aA : Option Addr) (nN cN nA cA : Nat) (i : Int) (ca : Option Addr) (cl cc : Nat) (most : Int) (w : World) (hC : ChkBad w er aN aA nN cN nA cA) (he : er ≠ 0) :
    Calls Tryz.prog 26 #[.agg #[.slice aN nN cN, .slice aA nA cA], .agg #[.int .i64 i, .slice ca cl cc], .int .i64 most] w fun e w' => e = .returned (.tuple #[.slice none 0 0, .int .i64 er]) ∧ Fr w w' := by
  have d1 : (er != 0) = true := bne_iff_ne.2 he
  have hop := fun W (hW : Fr w W) a k c => open_err er aN aA a nN cN nA cA k c W (hC.fr hW) he
  have hfA : Fr w ((w.alloc (.cells #[.slice aN nN cN, .slice aA nA cA] 31)).alloc (.cells #[.int .i64 i, .slice ca cl cc] 50)) := ((Fr.refl w).alloc _).alloc _
  replace hop := Lib.hid hop
  replace hfA := Lib.hid hfA
  replace he := Lib.hid he
  clear hC
  go_enter Tryz.func26, Tryz.ntmps26
  go_wp2_with fail
  refine (hop.out _ (hfA.out.alloc _) _ _ _).mono ?_
  rintro e w2 ⟨rfl, hf2⟩
  go_wp2_with fail
  go_ret2
  exact ⟨rfl, (hfA.out.alloc _).trans hf2⟩

set_option maxHeartbeats 1000000 in
theorem Relations_err (er : Int) (aN aA : Option Addr) (nN cN nA cA : Nat) (w : World) (hC : ChkBad w er aN aA nN cN nA cA) (he : er ≠ 0) :
    Calls Tryz.prog 11 #[.agg #[.slice aN nN cN, .slice aA nA cA]] w fun e w' => e = .returned (.tuple #[.slice none 0 0, .int .i64 er]) ∧ Fr w w' := by
  have d1 : (er != 0) = true := bne_iff_ne.2 he
  have hfA : Fr w (w.alloc (.cells #[.slice aN nN cN, .slice aA nA cA] 31)) := (Fr.refl w).alloc _
  replace hC := Lib.hid (hC _ hfA)
  replace hfA := Lib.hid hfA
  replace he := Lib.hid he
  go_enter Tryz.func11, Tryz.ntmps11
  go_wp2_with fail
  refine hC.out.mono ?_
  rintro e w2 ⟨rfl, hf2⟩
  go_wp2_with fail
  go_ret2
  exact ⟨rfl, hfA.out.trans hf2⟩

set_option maxHeartbeats 1000000 in
theorem Same_err (er : Int) (aN aA : Option Addr) (nN cN nA cA : Nat) (i : Int) (ca : Option Addr) (cl cc : Nat) (j : Int) (da : Option Addr) (dl dc : Nat) (w : World) (hC : ChkBad w er aN aA nN cN nA cA) (he : er ≠ 0) :
    Calls Tryz.prog 27 #[.agg #[.slice aN nN cN, .slice aA nA cA], .agg #[.int .i64 i, .slice ca cl cc], .agg #[.int .i64 j, .slice da dl dc]] w fun e w' => e = .returned (.tuple #[.bool false, .int .i64 er]) ∧ Fr w w' := by
  have d1 : (er != 0) = true := bne_iff_ne.2 he
  have hop := fun W (hW : Fr w W) a k c => open_err er aN aA a nN cN nA cA k c W (hC.fr hW) he
  have hfA : Fr w (((w.alloc (.cells #[.slice aN nN cN, .slice aA nA cA] 31)).alloc (.cells #[.int .i64 i, .slice ca cl cc] 50)).alloc (.cells #[.int .i64 j, .slice da dl dc] 50)) := (((Fr.refl w).alloc _).alloc _).alloc _
  replace hop := Lib.hid hop
  replace hfA := Lib.hid hfA
  replace he := Lib.hid he
  clear hC
  go_enter Tryz.func27, Tryz.ntmps27
  go_wp2_with fail
  refine (hop.out _ (hfA.out.alloc _) _ _ _).mono ?_
  rintro e w2 ⟨rfl, hf2⟩
  go_wp2_with fail
  go_ret2
  exact ⟨rfl, (hfA.out.alloc _).trans hf2⟩
set_option maxRecDepth 100000 in
set_option maxHeartbeats 1000000 in
theorem Simplest_err (er : Int) (aN aA ra : Option Addr) (nN cN nA cA rl rc : Nat) (most : Int) (w : World) (hC : ChkBad w er aN aA nN cN nA cA) (he : er ≠ 0) :
    Calls Tryz.prog 25 #[.agg #[.slice aN nN cN, .slice aA nA cA], .slice ra rl rc, .int .i64 most] w fun e w' => e = .returned (.tuple #[.agg #[.int .i64 0, .slice none 0 0], .bool false, .int .i64 er]) ∧ Fr w w' := by
  have hal := fun W (hW : Fr w W) => All_err er aN aA ra nN cN nA cA rl rc most W (hC.fr hW) he
  clear hC
  obtain ⟨wb, hwb⟩ : ∃ wb, wb = alls w [(.cells #[.slice aN nN cN, .slice aA nA cA] 31), (.cells #[.int .i64 0, .slice none 0 0] 50)] := ⟨_, rfl⟩
  have hfb : Fr w wb := by rw [hwb]; exact alls_fr _ w
  have g0 : wb.heap[w.heap.size]? = some (.cells #[.slice aN nN cN, .slice aA nA cA] 31 (0, 0)) := by rw [hwb]; exact alls_get _ w 0 _ rfl
  have g1 : wb.heap[w.heap.size + 1]? = some (.cells #[.int .i64 0, .slice none 0 0] 50 (0, 0)) := by rw [hwb]; exact alls_get _ w 1 _ rfl
  have b0 : wb.cell? ⟨w.heap.size, 0, none⟩ = some (.slice aN nN cN) := cells_of g0 0
  have b1 : wb.cell? ⟨w.heap.size, 1, none⟩ = some (.slice aA nA cA) := cells_of g0 1
  have q4 : wb.cell? ⟨w.heap.size + 1, 0, none⟩ = some (.int .i64 0) := cells_of g1 0
  have q5 : wb.cell? ⟨w.heap.size + 1, 1, none⟩ = some (.slice none 0 0) := cells_of g1 1
  have q6 : wb.frozen? ⟨w.heap.size + 1, 0, none⟩ = false := by unfold World.frozen?; rw [g1]; rfl
  have q7 : wb.frozen? ⟨w.heap.size + 1, 1, none⟩ = false := by unfold World.frozen?; rw [g1]; rfl
  clear g0 g1
  replace hal := Lib.hid (hal wb hfb)
  have d1 : (er != 0) = true := bne_iff_ne.2 he
  replace he := Lib.hid he
  go_enter Tryz.func25, Tryz.ntmps25
  go_upto_region 1 with (fail)
  change Code.wp _ _ _ _ (alls w [(.cells #[.slice aN nN cN, .slice aA nA cA] 31), (.cells #[.int .i64 0, .slice none 0 0] 50)])
  rw [← hwb]
  clear hwb
  go_wp2_with fail
  refine hal.out.mono ?_
  rintro e w2 ⟨rfl, hf2⟩
  replace q6 := hf2.keepf q4 q6
  replace q7 := hf2.keepf q5 q7
  replace q4 := hf2.keep q4
  replace q5 := hf2.keep q5
  have qs := two_store w2 (w.heap.size + 1) (.int .i64 0) (.slice none 0 0) _ _ q4 q5
  have q8 := qs.2.2.1
  have u0 := Lib.hid qs.1
  have u1 := Lib.hid qs.2.1
  have hfx := Lib.hid qs.2.2.2
  clear qs
  go_wp2_with fail
  have v0 := u0.out
  have v1 := u1.out
  refine bodyPost_ret (v := .tuple #[.agg #[.int .i64 0, .slice none 0 0], .bool false, .int .i64 er]) (by simp [results, Tryz.results25, go_sem, v0, v1]) rfl ⟨rfl, ?_⟩
  exact ((Fx.of_fr (p := fun q => q = w.heap.size + 1) (hfb.trans hf2)).trans hfx.out).toFr (fun q hq e => by have e : q = w.heap.size + 1 := e; omega)
end Go.Proofs.YtbpfkmpkadimeaaGreatDoor

/- slices.Concat of two slices of symbols, empty ones too. -/
namespace Go.Proofs.YtbpfkmpkadimeaaGreatDoor
open Go.RowKit Go.Lib

theorem Grow0_sym (w : World) : Calls Tryz.prog 126 #[.slice none 0 0, .int .i64 0] w fun e w' => e = .returned (.slice none 0 0) ∧ Fr w w' := by
  go_enter Tryz.func126, Tryz.ntmps126
  go_wp2_with fail
  go_ret
  exact ⟨rfl, Fr.refl _⟩

/-- a slice of pairs, or nil -/
def PrsRet2 (w : World) (xs : List (Value × Value)) (e : Ending) (w' : World) : Prop := ∃ a cp, e = .returned (.slice a xs.length cp) ∧ Prs w' a xs ∧ Fr w w'

set_option maxRecDepth 100000 in
set_option maxHeartbeats 4000000 in
theorem Concat_none (p c : Nat) (a b : Option Addr) (ca cb : Nat) (w : World) (hc1 : w.cell? ⟨p, 0, none⟩ = some (.slice a 0 ca)) (hc2 : w.cell? ⟨p, 1, none⟩ = some (.slice b 0 cb))
    (hna : a = none → ca = 0) (hnb : b = none → cb = 0) :
    Calls Tryz.prog 57 #[.slice (some ⟨p, 0, none⟩) 2 c] w (PrsRet2 w []) := by
  obtain ⟨i0, hi, hz0, hz1, hz2⟩ := info_parts infoSym
  have hgrow := fun W => Grow0_sym W
  have hfin : ∀ W, Fr w W → PrsRet2 w [] (.returned (.slice none 0 0)) W := fun W h => ⟨none, 0, rfl, .inl rfl, h⟩
  replace hgrow := Lib.hid hgrow
  replace hfin := Lib.hid hfin
  go_enter Tryz.func57, Tryz.ntmps57
  go_wp2_with fail
  refine wp_loop_rounds 3 ?_
  rw [rounds_succ]
  go_wp2_with fail
  rw [rounds_succ]
  go_wp2_with fail
  rw [rounds_succ]
  go_wp2_with fail
  refine (hgrow.out _).mono ?_
  rintro e w1 ⟨rfl, hf1⟩
  have hcA := hf1.keep hc1
  have hcB := hf1.keep hc2
  go_wp2_with fail
  refine wp_loop_rounds 3 ?_
  rw [rounds_succ]
  have ho := w1.ownsRow_nil w1.heap.size 46 2
  replace ho := Lib.hid ho
  cases a with
  | none =>
    obtain rfl := hna rfl
    go_wp2_with (first
    | (at_builtin; refine wpList_append_own_none rfl _ _ 29 (by rfl) w1.heap.size 46 i0 2 Tryz.underlying29 hi _ 0 [] (by rfl) ho.out (by rfl) ?_)
    | (at_builtin; refine wpList_append_own _ rfl _ _ 29 (by rfl) w1.heap.size 46 i0 _ 2 40 Tryz.underlying29 hi hz0 hz1 hz2 rfl (by decide) _ 0 _ (by rfl) ho.out aa 0 ca [] (by rfl) rfl (fun j u h => by simp at h) (fun u h => by simp at h) (by unfold maxLen; omega) (by omega) (Nat.le_refl _) ?_; intro v2 w2 hown2 hgr2 hv2))
    go_wp2_with fail
    rw [rounds_succ]
    cases b with
    | none =>
      obtain rfl := hnb rfl
      go_wp2_with (first
    | (at_builtin; refine wpList_append_own_none rfl _ _ 29 (by rfl) w1.heap.size 46 i0 2 Tryz.underlying29 hi _ 0 [] (by rfl) ho.out (by rfl) ?_)
    | (at_builtin; refine wpList_append_own _ rfl _ _ 29 (by rfl) w1.heap.size 46 i0 _ 2 40 Tryz.underlying29 hi hz0 hz1 hz2 rfl (by decide) _ 0 _ (by rfl) ho.out bb 0 cb [] (by rfl) rfl (fun j u h => by simp at h) (fun u h => by simp at h) (by unfold maxLen; omega) (by omega) (Nat.le_refl _) ?_; intro v3 w3 hown3 hgr3 hv3))
      go_wp2_with fail
      rw [rounds_succ]
      go_wp2_with fail
      go_ret
      exact hfin.out _ hf1
    | some bb =>
      go_wp2_with (first
    | (at_builtin; refine wpList_append_own_none rfl _ _ 29 (by rfl) w1.heap.size 46 i0 2 Tryz.underlying29 hi _ 0 [] (by rfl) ho.out (by rfl) ?_)
    | (at_builtin; refine wpList_append_own _ rfl _ _ 29 (by rfl) w1.heap.size 46 i0 _ 2 40 Tryz.underlying29 hi hz0 hz1 hz2 rfl (by decide) _ 0 _ (by rfl) ho.out bb 0 cb [] (by rfl) rfl (fun j u h => by simp at h) (fun u h => by simp at h) (by unfold maxLen; omega) (by omega) (Nat.le_refl _) ?_; intro v3 w3 hown3 hgr3 hv3))
      obtain rfl := hv3.2 ⟨by trivial, by trivial⟩
      have hf3 : Fr w w3 := hf1.grown hgr3 (fun k e => by cases e)
      clear hv3 hgr3 hown3
      go_wp2_with fail
      rw [rounds_succ]
      go_wp2_with fail
      go_ret
      exact hfin.out _ hf3
  | some aa =>
    go_wp2_with (first
    | (at_builtin; refine wpList_append_own_none rfl _ _ 29 (by rfl) w1.heap.size 46 i0 2 Tryz.underlying29 hi _ 0 [] (by rfl) ho.out (by rfl) ?_)
    | (at_builtin; refine wpList_append_own _ rfl _ _ 29 (by rfl) w1.heap.size 46 i0 _ 2 40 Tryz.underlying29 hi hz0 hz1 hz2 rfl (by decide) _ 0 _ (by rfl) ho.out aa 0 ca [] (by rfl) rfl (fun j u h => by simp at h) (fun u h => by simp at h) (by unfold maxLen; omega) (by omega) (Nat.le_refl _) ?_; intro v2 w2 hown2 hgr2 hv2))
    obtain rfl := hv2.2 ⟨by trivial, by trivial⟩
    have hf2 : Fr w w2 := hf1.grown hgr2 (fun k e => by cases e)
    replace hcA := hf2.keep hc1
    replace hcB := hf2.keep hc2
    clear hv2 hgr2 hown2
    go_wp2_with fail
    rw [rounds_succ]
    have ho2 := Lib.hid (w2.ownsRow_nil w2.heap.size 46 2)
    cases b with
    | none =>
      obtain rfl := hnb rfl
      go_wp2_with (first
    | (at_builtin; refine wpList_append_own_none rfl _ _ 29 (by rfl) w2.heap.size 46 i0 2 Tryz.underlying29 hi _ 0 [] (by rfl) ho2.out (by rfl) ?_)
    | (at_builtin; refine wpList_append_own _ rfl _ _ 29 (by rfl) w2.heap.size 46 i0 _ 2 40 Tryz.underlying29 hi hz0 hz1 hz2 rfl (by decide) _ 0 _ (by rfl) ho2.out bb 0 cb [] (by rfl) rfl (fun j u h => by simp at h) (fun u h => by simp at h) (by unfold maxLen; omega) (by omega) (Nat.le_refl _) ?_; intro v3 w3 hown3 hgr3 hv3))
      go_wp2_with fail
      rw [rounds_succ]
      go_wp2_with fail
      go_ret
      exact hfin.out _ hf2
    | some bb =>
      go_wp2_with (first
    | (at_builtin; refine wpList_append_own_none rfl _ _ 29 (by rfl) w2.heap.size 46 i0 2 Tryz.underlying29 hi _ 0 [] (by rfl) ho2.out (by rfl) ?_)
    | (at_builtin; refine wpList_append_own _ rfl _ _ 29 (by rfl) w2.heap.size 46 i0 _ 2 40 Tryz.underlying29 hi hz0 hz1 hz2 rfl (by decide) _ 0 _ (by rfl) ho2.out bb 0 cb [] (by rfl) rfl (fun j u h => by simp at h) (fun u h => by simp at h) (by unfold maxLen; omega) (by omega) (Nat.le_refl _) ?_; intro v3 w3 hown3 hgr3 hv3))
      obtain rfl := hv3.2 ⟨by trivial, by trivial⟩
      have hf3 : Fr w w3 := hf2.grown hgr3 (fun k e => by cases e)
      clear hv3 hgr3 hown3
      go_wp2_with fail
      rw [rounds_succ]
      go_wp2_with fail
      go_ret
      exact hfin.out _ hf3

set_option maxRecDepth 100000 in
set_option maxHeartbeats 4000000 in
theorem Concat_right (p c : Nat) (a b : Option Addr) (ca cb : Nat) (ys : List (Value × Value)) (w : World) (hc1 : w.cell? ⟨p, 0, none⟩ = some (.slice a 0 ca)) (hc2 : w.cell? ⟨p, 1, none⟩ = some (.slice b ys.length cb))
    (hna : a = none → ca = 0) (hy : Prs w b ys) (ho2 : ∀ z, z ∈ ys → z.1.oneCell' = true ∧ z.2.oneCell' = true) (hl : ys.length ≤ 1000000) (hpos : 0 < ys.length) :
    Calls Tryz.prog 57 #[.slice (some ⟨p, 0, none⟩) 2 c] w (PrsRet2 w ys) := by
  obtain ⟨i0, hi, hz0, hz1, hz2⟩ := info_parts infoSym
  obtain ⟨bb, bo, rfl⟩ := hy.addr hpos
  have hgrow := fun W => Any8.slices_Grow_grow Tryz.growSy i0 _ hi hz0 (by rw [hz1]; decide) none 0 0 (ys.length) [] W (Nat.le_refl _) (by omega) (by rw [hz2]; omega) (by omega) (by rw [hz1]; simp) (fun _ => rfl) (fun _ h => by cases h)
  change ∀ W, Calls Tryz.prog 126 #[.slice none 0 0, .int .i64 ((ys.length : Nat) : Int)] W (fun e w' => e = .returned (.slice (some ⟨W.heap.size, 0, none⟩) 0 (grownCap W (0 + (ys.length)) 0 46)) ∧
    w' = W.drew.alloc (.cells (([] : List Value).toArray ++ Builtin.zeroCells (Value.agg #[.string ⟨#[]⟩, .slice none 0 0]).cells (0 + (ys.length) - 0) ++ Builtin.zeroCells (Value.agg #[.string ⟨#[]⟩, .slice none 0 0]).cells (grownCap W (0 + (ys.length)) 0 46 - (0 + (ys.length)))) 46)) at hgrow
  obtain ⟨m, hm⟩ : ∃ m, m = ys.length := ⟨_, rfl⟩
  have hown0 : ∀ W : World, W.heap.size = w.heap.size → (W.alloc (.cells (([] : List Value).toArray ++ Builtin.zeroCells (Value.agg #[.string ⟨#[]⟩, .slice none 0 0]).cells (0 + (m) - 0) ++ Builtin.zeroCells (Value.agg #[.string ⟨#[]⟩, .slice none 0 0]).cells (grownCap w (0 + (m)) 0 46 - (0 + (m)))) 46)).ownsRow w.heap.size 46 2 (.slice (some ⟨w.heap.size, 0, none⟩) 0 (grownCap w (0 + (m)) 0 46)) 0 [] := fun W hW => by
    have hge := grownCap_ge w (0 + (m)) 0 46
    have hle := grownCap_le_maxLen w (0 + (m)) 0 46 (by unfold maxLen; omega)
    have hnew := heap_alloc_new W (.cells (([] : List Value).toArray ++ Builtin.zeroCells (Value.agg #[.string ⟨#[]⟩, .slice none 0 0]).cells (0 + (m) - 0) ++ Builtin.zeroCells (Value.agg #[.string ⟨#[]⟩, .slice none 0 0]).cells (grownCap w (0 + (m)) 0 46 - (0 + (m)))) 46)
    rw [hW] at hnew
    refine ⟨rfl, .inr ⟨w.heap.size, _, _, rfl, Nat.le_refl _, hnew, Nat.zero_le _, hle, ?_, by simp⟩⟩
    rw [Array.size_append, Array.size_append, size_zeroCells, size_zeroCells]
    generalize grownCap w (0 + (m)) 0 46 = C at *
    show ([] : List Value).toArray.size + (0 + (m) - 0) * 2 + (C - (0 + (m))) * 2 = C * 2
    have e0 : ([] : List Value).toArray.size = 0 := rfl
    rw [e0]
    omega
  rw [← hm] at hl hpos hc2 hgrow
  have hgrow1 := Lib.hid (show ∀ W, W.heap.size = w.heap.size → W.tape = w.tape → W.drawn = w.drawn → Calls Tryz.prog 126 #[.slice none 0 0, .int .i64 ((m : Nat) : Int)] W (fun e w' => ∃ C, e = .returned (.slice (some ⟨w.heap.size, 0, none⟩) 0 C) ∧ Fr W w' ∧ w'.ownsRow w.heap.size 46 2 (.slice (some ⟨w.heap.size, 0, none⟩) 0 C) 0 []) from fun W h1 h2 h3 => by
    have hC : grownCap W (0 + (m)) 0 46 = grownCap w (0 + (m)) 0 46 := by unfold grownCap; rw [h2, h3]
    have hw := hown0 W.drew h1
    have h := hgrow W
    rw [hC, h1] at h
    refine h.mono ?_
    rintro e w' ⟨rfl, rfl⟩
    exact ⟨_, rfl, (Fr.refl W).drew.alloc _, hw⟩)
  have hy1 := Lib.hid hy
  have hm1 := Lib.hid hm
  have ho2 := Lib.hid ho2
  have hyc : Hid (∀ j u, (flat2 ys)[j]? = some u → w.cell? ((⟨bb, bo, none⟩ : Addr).add j) = some u) := Lib.hid hy.cells
  have hfl2 := Lib.hid (flat2_length ys)
  clear hy hm hgrow hown0
  go_enter Tryz.func57, Tryz.ntmps57
  go_wp2_with fail
  refine wp_loop_rounds 3 ?_
  rw [rounds_succ]
  go_wp2_with fail
  rw [rounds_succ]
  go_wp2_with fail
  rw [rounds_succ]
  go_wp2_with fail
  refine (hgrow1.out _ rfl rfl rfl).mono ?_
  rintro e w1 ⟨C, rfl, hf1, hown1⟩
  have hcA := hf1.keep hc1
  have hcB := hf1.keep hc2
  have hs1 := hf1.size
  go_wp2_with fail
  refine wp_loop_rounds 3 ?_
  rw [rounds_succ]
  have hfin : ∀ v3 w3, Fr w w3 → w3.ownsRow w.heap.size 46 2 v3 (0 + m) ([] ++ flat2 ys) → PrsRet2 w ys (.returned v3) w3 := fun v3 w3 hf3 hown3 => by
    obtain ⟨g3, cap3, rfl⟩ := ownsRow_pos hown3 (by omega)
    rw [List.nil_append] at hown3
    obtain ⟨hp3, -, -, -, -, -⟩ := ownsRow_prs hown3
    exact ⟨some ⟨g3, 0, none⟩, cap3, by rw [← hm1.out, Nat.zero_add], hp3, hf3⟩
  replace hfin := Lib.hid hfin
  cases a with
  | none =>
    obtain rfl := hna rfl
    go_wp2_with (first
    | (at_builtin; refine wpList_append_own_none rfl _ _ 29 (by rfl) w.heap.size 46 i0 2 Tryz.underlying29 hi _ 0 [] (by rfl) hown1 (by rfl) ?_)
    | (at_builtin; refine wpList_append_own _ rfl _ _ 29 (by rfl) w.heap.size 46 i0 _ 2 40 Tryz.underlying29 hi hz0 hz1 hz2 rfl (by decide) _ 0 _ (by rfl) hown1 aa 0 ca [] (by rfl) rfl (fun j u h => by simp at h) (fun u h => by simp at h) (by unfold maxLen; omega) (by omega) hs1 ?_; intro v2 w2 hown2 hgr2 hv2))
    go_wp2_with fail
    rw [rounds_succ]
    have hyc2 : Hid (∀ j u, (flat2 ys)[j]? = some u → w1.cell? ((⟨bb, bo, none⟩ : Addr).add j) = some u) := Lib.hid (fun j u hu => hf1.keep (hyc.out j u hu))
    go_wp2_with (at_builtin; refine wpList_append_own _ rfl _ _ 29 (by rfl) w.heap.size 46 i0 _ 2 40 Tryz.underlying29 hi hz0 hz1 hz2 rfl (by decide) _ 0 _ (by rfl) hown1 ⟨bb, bo, none⟩ m cb (flat2 ys) (by rfl) (by rw [hfl2.out, ← hm1.out]) hyc2.out (flat2_one ho2.out) (by unfold maxLen; omega) (by omega) hs1 ?_; intro v3 w3 hown3 hgr3 hv3)
    have hf3 : Fr w w3 := hf1.grown hgr3 (fun k e => by simp [Value.ownBlock] at e; omega)
    have hfin3 := Lib.hid (hfin.out v3 w3 hf3 hown3)
    clear hv3 hgr3 hown3
    go_wp2_with fail
    rw [rounds_succ]
    go_wp2_with fail
    go_ret
    exact hfin3.out
  | some aa =>
    go_wp2_with (first
    | (at_builtin; refine wpList_append_own_none rfl _ _ 29 (by rfl) w.heap.size 46 i0 2 Tryz.underlying29 hi _ 0 [] (by rfl) hown1 (by rfl) ?_)
    | (at_builtin; refine wpList_append_own _ rfl _ _ 29 (by rfl) w.heap.size 46 i0 _ 2 40 Tryz.underlying29 hi hz0 hz1 hz2 rfl (by decide) _ 0 _ (by rfl) hown1 aa 0 ca [] (by rfl) rfl (fun j u h => by simp at h) (fun u h => by simp at h) (by unfold maxLen; omega) (by omega) hs1 ?_; intro v2 w2 hown2 hgr2 hv2))
    have hf2 : Fr w w2 := hf1.grown hgr2 (fun k e => by simp [Value.ownBlock] at e; omega)
    have hs2 := hf2.size
    replace hcB := hf2.keep hc2
    have hyc2 : Hid (∀ j u, (flat2 ys)[j]? = some u → w2.cell? ((⟨bb, bo, none⟩ : Addr).add j) = some u) := Lib.hid (fun j u hu => hf2.keep (hyc.out j u hu))
    replace hcA := hf2.keep hc1
    have hge := Lib.hid (fun k (e : v2.ownBlock = some k) => ownsRow_own_ge hown2 k e)
    clear hv2 hgr2 hown1
    replace hown2 : w2.ownsRow w.heap.size 46 2 v2 0 [] := hown2
    replace hown2 := Lib.hid hown2
    go_wp2_with fail
    rw [rounds_succ]
    go_wp2_with (at_builtin; refine wpList_append_own _ rfl _ _ 29 (by rfl) w.heap.size 46 i0 _ 2 40 Tryz.underlying29 hi hz0 hz1 hz2 rfl (by decide) _ 0 _ (by rfl) hown2.out ⟨bb, bo, none⟩ m cb (flat2 ys) (by rfl) (by rw [hfl2.out, ← hm1.out]) hyc2.out (flat2_one ho2.out) (by unfold maxLen; omega) (by omega) hs2 ?_; intro v3 w3 hown3 hgr3 hv3)
    have hf3 : Fr w w3 := hf2.grown hgr3 (fun k e => hge.out k e)
    have hfin3 := Lib.hid (hfin.out v3 w3 hf3 hown3)
    clear hv3 hgr3 hown3
    go_wp2_with fail
    rw [rounds_succ]
    go_wp2_with fail
    go_ret
    exact hfin3.out

/-- the symbols of a notation, side by side -/
theorem Concat_not (p c : Nat) (aN aA : Option Addr) (cN cA : Nat) (N A : List Sy) (w : World) (hp : p < w.heap.size) (hn : NotIs w aN aA cA N A) (hnN : aN = none → cN = 0) (hl : N.length + A.length ≤ 1000000)
    (hc1 : w.cell? ⟨p, 0, none⟩ = some (.slice aN N.length cN)) (hc2 : w.cell? ⟨p, 1, none⟩ = some (.slice aA A.length cA)) :
    Calls Tryz.prog 57 #[.slice (some ⟨p, 0, none⟩) 2 c] w fun e w' => ∃ a cp, e = .returned (.slice a (N ++ A).length cp) ∧ Syms w' a (N ++ A) ∧ Fr w w' := by
  have key : ∀ e w', PrsRet2 w ((N ++ A).map Sy.enc) e w' → ∃ a cp, e = .returned (.slice a (N ++ A).length cp) ∧ Syms w' a (N ++ A) ∧ Fr w w' := fun e w' h => by
    obtain ⟨a, cp, rfl, h1, h2⟩ := h
    refine ⟨a, cp, by rw [List.length_map], ⟨h1, fun x hx => ?_⟩, h2⟩
    rcases List.mem_append.1 hx with h9 | h9
    · exact (hn.noms.2 x h9).fr h2
    · exact (hn.accs.2 x h9).fr h2
  by_cases h0 : 0 < N.length
  · refine (Concat_sym p c aN aA cN cA (N.map Sy.enc) (A.map Sy.enc) w hp (by rw [List.length_map]; exact hc1) (by rw [List.length_map]; exact hc2) hn.noms.1 hn.accs.1 (fun e => ⟨(hn.nil e).1, by rw [(hn.nil e).2]; rfl⟩) (Sy.one N) (Sy.one A) (by rw [List.length_map, List.length_map]; exact hl) (by rw [List.length_map]; exact h0)).mono ?_
    rintro e w' ⟨g, cp, rfl, h1, -, -, h2⟩
    rw [← List.map_append] at h1
    exact key _ _ ⟨some ⟨g, 0, none⟩, cp, by rw [← List.map_append], h1, h2⟩
  · obtain rfl : N = [] := List.eq_nil_of_length_eq_zero (by omega)
    by_cases h1 : 0 < A.length
    · refine (Concat_right p c aN aA cN cA (A.map Sy.enc) w hc1 (by rw [List.length_map]; exact hc2) hnN hn.accs.1 (Sy.one A) (by rw [List.length_map]; simp at hl; omega) (by rw [List.length_map]; exact h1)).mono key
    · obtain rfl : A = [] := List.eq_nil_of_length_eq_zero (by omega)
      exact (Concat_none p c aN aA cN cA w hc1 hc2 hnN (fun e => (hn.nil e).1)).mono key
end Go.Proofs.YtbpfkmpkadimeaaGreatDoor

/- The law's own check, and few: at every notation. -/
namespace Go.Proofs.YtbpfkmpkadimeaaGreatDoor
open Go.RowKit Go.Lib

abbrev bsv : ByteArray → Value := fun s => .string s
set_option maxHeartbeats 400000 in
theorem Index_str (xs : List ByteArray) (x : ByteArray) (a : Option Addr) (cap : Nat) (w : World) (hx : El w bsv a xs) (hl : xs.length ≤ 1000000000) :
    Calls Tryz.prog 127 #[.slice a xs.length cap, .string x] w fun e w' => e = .returned (.int .i64 (idx (fun y => x.toList == y.toList) xs)) ∧ Fr w w' := by
  go_enter Tryz.func127, Tryz.ntmps127
  go_wp2
  go_loopw [5, 8] (fun _ s8 wr => ∃ k : Nat, s8 = .int .i64 k ∧ k ≤ xs.length ∧ w = wr ∧ Hid (∀ j y, j < k → xs[j]? = some y → (x.toList == y.toList) = false)) (fun _ s8 _ => xs.length - (RowKit.intOf s8).toNat)
  case atStart => exact ⟨0, rfl, Nat.zero_le _, rfl, fun j x h => absurd h (Nat.not_lt_zero _)⟩
  case round =>
    obtain ⟨k, rfl, hk, rfl, hb⟩ := hrel
    by_cases hlt : k < xs.length
    · obtain ⟨b, o, y, rfl, hbl, hxk, hcell⟩ := hx.at hlt
      have hxk := Lib.hid hxk
      cases hpt : (x.toList == y.toList) with
      | true =>
        replace hcell : w.cell? ⟨b, o + k, none⟩ = some (.string y) := hcell
        go_wp2_with fail
        go_ret
        exact ⟨ret_int (idx_found hb.out hxk.out hpt).symm, Fr.refl _⟩
      | false =>
        replace hcell : w.cell? ⟨b, o + k, none⟩ = some (.string y) := hcell
        have hs := idx_step hb.out hxk.out hpt
        go_wp2_with fail
        go_roundw
        case rel => exact ⟨k + 1, by go_num, by omega, trivial, hs⟩
        case measure => simp [RowKit.intOf]; omega
    · go_wp2_with fail
      go_ret
      exact ⟨ret_int (idx_none (by rw [show xs.length = k by omega]; exact hb.out)).symm, Fr.refl _⟩
set_option maxHeartbeats 400000 in
theorem Contains_str (xs : List ByteArray) (x : ByteArray) (a : Option Addr) (cap : Nat) (w : World) (hx : El w bsv a xs) (hl : xs.length ≤ 1000000000) :
    Calls Tryz.prog 59 #[.slice a xs.length cap, .string x] w fun e w' => e = .returned (.bool (xs.any (fun y => x.toList == y.toList))) ∧ Fr w w' := by
  rw [← idx_any]
  have hc := Index_str xs x a cap w hx hl
  go_enter Tryz.func59, Tryz.ntmps59
  go_wp2_with fail
  refine hc.mono ?_
  rintro e w' ⟨rfl, hf⟩
  go_wp2_with fail
  go_ret
  exact ⟨rfl, hf⟩

def longSy (x : Sy) : Bool := decide (40 < x.nm.size ∨ 14 < x.row.length)
def fewB (N A : List Sy) : Bool := decide (¬ ((4 < N.length ∧ (N.length < 60 ∨ 62 < N.length)) ∨ 8 < A.length)) && !(N ++ A).any longSy
theorem fewB_fit {N A : List Sy} (h : fewB N A = true) : N.length ≤ 62 ∧ A.length ≤ 8 ∧ SyFit (N ++ A) := by
  unfold fewB at h
  rw [Bool.and_eq_true, Bool.not_eq_true', List.any_eq_false, decide_eq_true_iff] at h
  refine ⟨by omega, by omega, fun x hx => ?_⟩
  have := h.2 x hx
  unfold longSy at this
  rw [decide_eq_true_iff] at this
  omega
theorem few1_pred (w : World) (xs : List Sy) : PredP w 58 #[] Sy.enc longSy xs := fun x W _ _ => by
  show Calls Tryz.prog 58 #[.agg #[.string x.nm, .slice x.ra x.row.length x.rc]] W _
  have hT := fun (h : 40 < x.nm.size ∨ 14 < x.row.length) => (show longSy x = true from decide_eq_true h)
  have hF := fun (h : ¬ (40 < x.nm.size ∨ 14 < x.row.length)) => (show longSy x = false from decide_eq_false h)
  generalize longSy x = E at *
  generalize x.nm = nm at *
  generalize x.row.length = k at *
  replace hT := Lib.hid hT
  replace hF := Lib.hid hF
  by_cases h1 : 40 < nm.size
  · have d1 : decide ((40 : Int) < (nm.size : Int)) = true := decide_eq_true (by omega)
    have hfin := Lib.hid (hT.out (.inl h1))
    go_enter Tryz.func58, Tryz.ntmps58
    go_wp2_with fail
    go_ret
    exact ⟨ret_bool hfin.out.symm, (Fr.refl _).alloc _⟩
  · have d1 : decide ((40 : Int) < (nm.size : Int)) = false := decide_eq_false (by omega)
    by_cases h2 : 14 < k
    · have d2 : decide ((14 : Int) < (k : Int)) = true := decide_eq_true (by omega)
      have hfin := Lib.hid (hT.out (.inr h2))
      go_enter Tryz.func58, Tryz.ntmps58
      go_wp2_with fail
      go_ret
      exact ⟨ret_bool hfin.out.symm, (Fr.refl _).alloc _⟩
    · have d2 : decide ((14 : Int) < (k : Int)) = false := decide_eq_false (by omega)
      have hfin := Lib.hid (hF.out (by omega))
      go_enter Tryz.func58, Tryz.ntmps58
      go_wp2_with fail
      go_ret
      exact ⟨ret_bool hfin.out.symm, (Fr.refl _).alloc _⟩

set_option maxRecDepth 100000 in
set_option maxHeartbeats 4000000 in
theorem few_any (aN aA : Option Addr) (cN cA : Nat) (N A : List Sy) (w : World) (hn : NotIs w aN aA cA N A) (hnN : aN = none → cN = 0) (hNl : N.length ≤ maxLen) (hAl : A.length ≤ maxLen) :
    Calls Tryz.prog 19 #[.agg #[.slice aN N.length cN, .slice aA A.length cA]] w fun e w' => e = .returned (.bool (fewB N A)) ∧ Fr w w' := by
  have f0 : Fr w (w.alloc (.cells #[.slice aN N.length cN, .slice aA A.length cA] 31)) := (Fr.refl w).alloc _
  unfold maxLen at hNl hAl
  by_cases hB : (4 < N.length ∧ (N.length < 60 ∨ 62 < N.length)) ∨ 8 < A.length
  · have hfin := Lib.hid (show fewB N A = false by unfold fewB; rw [decide_eq_false (by omega)]; rfl)
    generalize fewB N A = E at *
    obtain ⟨n, hnn⟩ : ∃ n, n = N.length := ⟨_, rfl⟩
    obtain ⟨a, han⟩ : ∃ a, a = A.length := ⟨_, rfl⟩
    rw [← hnn] at hB hNl f0 ⊢
    rw [← han] at hB hAl f0 ⊢
    clear hn hnn han hnN
    replace f0 := Lib.hid f0
    by_cases h4 : 4 < n
    · have d1 : decide ((4 : Int) < (n : Int)) = true := decide_eq_true (by omega)
      by_cases h5 : n < 60
      · have d2 : decide ((n : Int) < (60 : Int)) = true := decide_eq_true (by omega)
        clear hB
        go_enter Tryz.func19, Tryz.ntmps19
        go_wp2_with fail
        go_ret
        exact ⟨ret_bool hfin.out.symm, f0.out⟩
      · have d2 : decide ((n : Int) < (60 : Int)) = false := decide_eq_false (by omega)
        by_cases h6 : 62 < n
        · have d3 : decide ((62 : Int) < (n : Int)) = true := decide_eq_true (by omega)
          clear hB
          go_enter Tryz.func19, Tryz.ntmps19
          go_wp2_with fail
          go_ret
          exact ⟨ret_bool hfin.out.symm, f0.out⟩
        · have d3 : decide ((62 : Int) < (n : Int)) = false := decide_eq_false (by omega)
          have d4 : decide ((8 : Int) < (a : Int)) = true := decide_eq_true (by omega)
          clear hB
          go_enter Tryz.func19, Tryz.ntmps19
          go_wp2_with fail
          go_ret
          exact ⟨ret_bool hfin.out.symm, f0.out⟩
    · have d1 : decide ((4 : Int) < (n : Int)) = false := decide_eq_false (by omega)
      have d4 : decide ((8 : Int) < (a : Int)) = true := decide_eq_true (by omega)
      clear hB
      go_enter Tryz.func19, Tryz.ntmps19
      go_wp2_with fail
      go_ret
      exact ⟨ret_bool hfin.out.symm, f0.out⟩
  · have hfin := Lib.hid (show fewB N A = !(N ++ A).any longSy by unfold fewB; rw [decide_eq_true hB]; rfl)
    have hcat : ∀ W : World, Fr w W → ∀ (p c : Nat), p < W.heap.size → W.cell? ⟨p, 0, none⟩ = some (.slice aN N.length cN) → W.cell? ⟨p, 1, none⟩ = some (.slice aA A.length cA) →
        Calls Tryz.prog 57 #[.slice (some ⟨p, 0, none⟩) 2 c] W (fun e w' => ∃ a cp, e = .returned (.slice a (N ++ A).length cp) ∧ Syms w' a (N ++ A) ∧ Fr W w') := fun W hW p c hp h1 h2 =>
      Concat_not p c aN aA cN cA N A W hp (hn.fr hW) hnN (by omega) h1 h2
    have hcf := fun (W : World) (a : Option Addr) (cp : Nat) (h : Syms W a (N ++ A)) =>
      ContainsFunc_sym Sy.enc (N ++ A) a cp 58 #[] longSy W (enters_of Tryz.func58 (by kernel_rfl) rfl) h.1 (by rw [List.length_append]; omega) (few1_pred W _)
    generalize fewB N A = E at *
    obtain ⟨n, hnn⟩ : ∃ n, n = N.length := ⟨_, rfl⟩
    obtain ⟨a, han⟩ : ∃ a, a = A.length := ⟨_, rfl⟩
    rw [← hnn] at hB hNl f0 hcat ⊢
    rw [← han] at hB hAl f0 hcat ⊢
    generalize N ++ A = L at *
    generalize L.any longSy = bL at *
    clear hn hnn han hnN
    replace f0 := Lib.hid f0
    replace hcat := Lib.hid hcat
    replace hcf := Lib.hid hcf
    have d4 : decide ((8 : Int) < (a : Int)) = false := decide_eq_false (by omega)
    by_cases h4 : 4 < n
    · have d1 : decide ((4 : Int) < (n : Int)) = true := decide_eq_true (by omega)
      have d2 : decide ((n : Int) < (60 : Int)) = false := decide_eq_false (by omega)
      have d3 : decide ((62 : Int) < (n : Int)) = false := decide_eq_false (by omega)
      clear hB
      go_enter Tryz.func19, Tryz.ntmps19
      go_wp2_with fail
      have p1 := new2a (w.alloc (.cells #[.slice aN n cN, .slice aA a cA] 31)) (.slice aN n cN) (.slice aA a cA) 29
      have p2 := new2b (w.alloc (.cells #[.slice aN n cN, .slice aA a cA] 31)) (.slice aN n cN) (.slice aA a cA) 29
      rw [show (w.alloc (.cells #[.slice aN n cN, .slice aA a cA] 31)).heap.size = w.heap.size + 1 by simp] at p1 p2
      refine (hcat.out _ (f0.out.alloc _) (w.heap.size + 1) 2 (by simp) p1.1 p2.1).mono ?_
      rintro e w1 ⟨ag, cp, rfl, hsy, hf1⟩
      replace hcf := Lib.hid (hcf.out w1 ag cp hsy)
      clear p1 p2 hcat hsy
      go_wp2_with fail
      refine hcf.out.mono ?_
      rintro e w2 ⟨rfl, hf2⟩
      go_wp2_with fail
      go_ret
      exact ⟨ret_bool hfin.out.symm, ((f0.out.alloc _).trans hf1).trans hf2⟩
    · have d1 : decide ((4 : Int) < (n : Int)) = false := decide_eq_false (by omega)
      clear hB
      go_enter Tryz.func19, Tryz.ntmps19
      go_wp2_with fail
      have p1 := new2a (w.alloc (.cells #[.slice aN n cN, .slice aA a cA] 31)) (.slice aN n cN) (.slice aA a cA) 29
      have p2 := new2b (w.alloc (.cells #[.slice aN n cN, .slice aA a cA] 31)) (.slice aN n cN) (.slice aA a cA) 29
      rw [show (w.alloc (.cells #[.slice aN n cN, .slice aA a cA] 31)).heap.size = w.heap.size + 1 by simp] at p1 p2
      refine (hcat.out _ (f0.out.alloc _) (w.heap.size + 1) 2 (by simp) p1.1 p2.1).mono ?_
      rintro e w1 ⟨ag, cp, rfl, hsy, hf1⟩
      replace hcf := Lib.hid (hcf.out w1 ag cp hsy)
      clear p1 p2 hcat hsy
      go_wp2_with fail
      refine hcf.out.mono ?_
      rintro e w2 ⟨rfl, hf2⟩
      go_wp2_with fail
      go_ret
      exact ⟨ret_bool hfin.out.symm, ((f0.out.alloc _).trans hf1).trans hf2⟩

theorem infoStr : (Tryz.prog.info? 9).map (fun i => (i.zero, i.size, i.bytes)) = some (some (.string ⟨#[]⟩), 1, 16) := by kernel_rfl
/-- a slice of strings of the call's own, read -/
theorem own_readB {w : World} {base : Nat} {v : Value} {l : List ByteArray} (h : w.ownsRow base 9 1 v l.length (l.map bsv)) : ∃ a c, v = .slice a l.length c ∧ El w bsv a l := by
  rcases h.2 with ⟨h1, h2⟩ | ⟨g, cap, cur, hv, _⟩
  · have := List.eq_nil_of_length_eq_zero h2
    subst this
    exact ⟨none, 0, h1, .inl rfl⟩
  · subst hv
    obtain ⟨-, h1, h2, h3, h4⟩ := ownsRow_some h
    refine ⟨_, _, rfl, .inr ⟨g, 0, rfl, h2, fun i x hx => ?_⟩⟩
    rw [Nat.zero_add]
    exact (h4 i (bsv x) (by rw [List.getElem?_map, hx]; rfl)).1
theorem any_nm (L : List Sy) (nm : ByteArray) : (L.map Sy.nm).any (fun y => nm.toList == y.toList) = L.any (fun y => y.nm.toList == nm.toList) := by
  rw [List.any_map]
  congr 1
  funext y
  show (nm.toList == y.nm.toList) = (y.nm.toList == nm.toList)
  exact Bool.beq_comm

set_option maxRecDepth 100000 in
set_option maxHeartbeats 8000000 in
theorem check_law (aN aA : Option Addr) (cN cA : Nat) (N A : List Sy) (w : World) (hn : NotIs w aN aA cA N A) (hs : SyFit (N ++ A)) (hNl : N.length ≤ 1000000000) (hAl : A.length ≤ 1000000000) :
    Calls Tryz.prog 20 #[.agg #[.slice aN N.length cN, .slice aA A.length cA]] w fun e w' => e = .returned (.int .i64 (chkE N A)) ∧ Fr w w' := by
  have f0 : Fr w (w.alloc (.cells #[.slice aN N.length cN, .slice aA A.length cA] 31)) := (Fr.refl w).alloc _
  by_cases hn1 : N.length = 0
  · have hfin := Lib.hid (show chkE N A = 13 by unfold chkE; rw [if_pos hn1])
    have d1 : ((N.length : Int) == 0) = true := by rw [hn1]; rfl
    replace f0 := Lib.hid f0
    clear hn hs
    replace hn1 := Lib.hid hn1
    go_enter Tryz.func20, Tryz.ntmps20
    go_wp2_with fail
    go_ret
    exact ⟨ret_int hfin.out.symm, f0.out⟩
  have d1 : ((N.length : Int) == 0) = false := beq_false_of_ne (by omega)
  by_cases hn60 : 60 < N.length
  · have hfin := Lib.hid (show chkE N A = 4 by unfold chkE; rw [if_neg hn1, if_pos (.inl hn60)])
    have d2 : decide ((60 : Int) < (N.length : Int)) = true := decide_eq_true (by omega)
    replace f0 := Lib.hid f0
    clear hn hs
    replace hn1 := Lib.hid hn1
    go_enter Tryz.func20, Tryz.ntmps20
    go_wp2_with fail
    go_ret
    exact ⟨ret_int hfin.out.symm, f0.out⟩
  have d2 : decide ((60 : Int) < (N.length : Int)) = false := decide_eq_false (by omega)
  by_cases ha6 : 6 < A.length
  · have hfin := Lib.hid (show chkE N A = 4 by unfold chkE; rw [if_neg hn1, if_pos (.inr ha6)])
    have d3 : decide ((6 : Int) < (A.length : Int)) = true := decide_eq_true (by omega)
    replace f0 := Lib.hid f0
    clear hn hs
    replace hn1 := Lib.hid hn1
    go_enter Tryz.func20, Tryz.ntmps20
    go_wp2_with fail
    go_ret
    exact ⟨ret_int hfin.out.symm, f0.out⟩
  have d3 : decide ((6 : Int) < (A.length : Int)) = false := decide_eq_false (by omega)
  have hE : chkE N A = scanE (headD (N ++ A)) (N ++ A) (N ++ A).length 0 := by unfold chkE; rw [if_neg hn1, if_neg (by omega)]
  replace hn1 : 0 < N.length := by omega
  have hcat : ∀ W : World, Fr w W → ∀ (p c : Nat), p < W.heap.size → W.cell? ⟨p, 0, none⟩ = some (.slice aN N.length cN) → W.cell? ⟨p, 1, none⟩ = some (.slice aA A.length cA) →
      Calls Tryz.prog 57 #[.slice (some ⟨p, 0, none⟩) 2 c] W (fun e w' => ∃ g cp, e = .returned (.slice (some ⟨g, 0, none⟩) (N ++ A).length cp) ∧ Syms w' (some ⟨g, 0, none⟩) (N ++ A) ∧ (N ++ A).length ≤ cp ∧ Fr W w') := fun W hW p c hp h1 h2 => by
    have hN := hn.fr hW
    have h := Concat_sym p c aN aA cN cA (N.map Sy.enc) (A.map Sy.enc) W hp (by rw [List.length_map]; exact h1) (by rw [List.length_map]; exact h2) hN.noms.1 hN.accs.1 (fun e => ⟨(hN.nil e).1, by rw [(hN.nil e).2]; rfl⟩) (Sy.one N) (Sy.one A) (by rw [List.length_map, List.length_map]; omega) (by rw [List.length_map]; exact hn1)
    rw [← List.map_append] at h
    refine h.mono ?_
    rintro e w' ⟨g, cp, rfl, hp', -, hcp, hf⟩
    refine ⟨g, cp, by rw [List.length_map], ⟨hp', fun x hx => ?_⟩, by rw [List.length_map] at hcp; exact hcp, hf⟩
    rcases List.mem_append.1 hx with h9 | h9
    · exact (hN.noms.2 x h9).fr hf
    · exact (hN.accs.2 x h9).fr hf
  obtain ⟨i0, hi0, hz0, hz1, hz2⟩ := info_parts infoStr
  obtain ⟨bN, oN, x0, haN, hbN, hx0, hc3, hc4, -⟩ := hn.noms.at (i := 0) hn1
  subst haN
  have hd0 : headD (N ++ A) = x0.row.length := by
    refine headD_at ?_
    rw [List.getElem?_append_left hn1]; exact hx0
  rw [Nat.zero_mul, Nat.add_zero] at hc4
  have hlen : (N ++ A).length = N.length + A.length := List.length_append
  obtain ⟨T, hT⟩ : ∃ T, T = (N ++ A).length := ⟨_, rfl⟩
  rw [← hT] at hcat hlen hE
  have hT1 : 0 < T := by omega
  have hT2 : T ≤ 66 := by omega
  obtain ⟨n, hnn⟩ : ∃ n, n = N.length := ⟨_, rfl⟩
  obtain ⟨a, han⟩ : ∃ a, a = A.length := ⟨_, rfl⟩
  rw [← hnn] at hcat hn1 hn60 d1 d2 f0 ⊢
  rw [← han] at hcat ha6 d3 f0 ⊢
  generalize chkE N A = E at *
  generalize N ++ A = L at *
  generalize x0.row.length = d0 at *
  generalize x0.ra = ra0 at *
  generalize x0.rc = rc0 at *
  clear hn hlen hnn han hx0 hc3
  replace hcat := Lib.hid hcat
  replace hs := Lib.hid hs
  replace hT := Lib.hid hT
  replace hE := Lib.hid hE
  replace hd0 := Lib.hid hd0
  have p1 := new2a w (.slice (some ⟨bN, oN, none⟩) n cN) (.slice aA a cA) 31
  have p2 := new2b w (.slice (some ⟨bN, oN, none⟩) n cN) (.slice aA a cA) 31
  obtain ⟨wa, hwa⟩ : ∃ wa, wa = w.alloc (.cells #[.slice (some ⟨bN, oN, none⟩) n cN, .slice aA a cA] 31) := ⟨_, rfl⟩
  rw [← hwa] at f0 p1 p2
  have n0 := p1.1
  have n1 := p2.1
  clear p1 p2
  replace hc4 := f0.keep hc4
  replace f0 := Lib.hid f0
  go_enter Tryz.func20, Tryz.ntmps20
  go_upto_region 1 with (fail)
  change Code.wp _ _ _ _ (w.alloc (.cells #[.slice (some ⟨bN, oN, none⟩) n cN, .slice aA a cA] 31))
  rw [← hwa]
  clear hwa
  go_wp2_with fail
  have p1 := new2a wa (.slice (some ⟨bN, oN, none⟩) n cN) (.slice aA a cA) 29
  have p2 := new2b wa (.slice (some ⟨bN, oN, none⟩) n cN) (.slice aA a cA) 29
  refine (hcat.out _ (f0.out.alloc _) wa.heap.size 2 (by simp) p1.1 p2.1).mono ?_
  rintro e w1 ⟨g, cp, rfl, hsy, hcp, hf1⟩
  have hf : Fr wa w1 := ((Fr.refl wa).alloc _).trans hf1
  clear p1 p2 hcat hf1
  replace n0 := hf.keep n0
  replace hc4 := hf.keep hc4
  replace hf := Lib.hid (f0.out.trans hf)
  clear n1 f0
  replace hsy := Lib.hid hsy
  go_wp2_with fail
  go_loopg [3, 28] T (fun gk s3 s28 wr => ∃ i : Nat, s28 = .int .i64 i ∧ i + gk = T ∧ scanE (headD L) L gk i = E ∧ Fr w1 wr ∧ Hid (wr.ownsRow w1.heap.size 9 1 s3 i (((L.take i).map Sy.nm).map bsv)))
  case atStart => exact ⟨0, rfl, by omega, hE.out.symm, Fr.refl _, World.ownsRow_nil _ _ _ _⟩
  case round =>
    obtain ⟨i, rfl, hik, hsc, hfr, hown⟩ := hrel
    by_cases hi : i < T
    · have hdI : decide (i < T) = true := decide_eq_true hi
      obtain ⟨b, o, x, hae, hbl, hxi, hc1, hc2, hel⟩ := hsy.out.at (i := i) (by rw [← hT.out]; exact hi)
      injection hae with hae; injection hae with h1 h2
      subst h1; subst h2
      replace hc1 := hfr.keep hc1
      replace hc2 := hfr.keep hc2
      have hmem : x ∈ L := List.mem_of_getElem? hxi
      obtain ⟨hnl, hrl⟩ := hs.out x hmem
      have hN := IsName_any x.nm
      have hck := fun W (hW : Fr w1 W) => Check_row x.row x.ra x.rc W (hel.fr hW) hrl
      have hil : ((L.take i).map Sy.nm).length = i := by rw [List.length_map, List.length_take]; have := hT.out; omega
      have hown9 := hown.out
      have hsnoc : Hid (((L.take (i + 1)).map Sy.nm).map bsv = ((L.take i).map Sy.nm).map bsv ++ [.string x.nm]) := Lib.hid (by rw [take_snoc hxi, List.map_append, List.map_append]; rfl)
      obtain ⟨ar, cr, hs3, her⟩ := own_readB (w := wr) (base := w1.heap.size) (v := u3) (l := (L.take i).map Sy.nm) (by rw [hil]; exact hown9)
      subst hs3
      have hct := fun (W : World) (hW : Fr wr W) => Contains_str ((L.take i).map Sy.nm) x.nm ar cr W (her.fr hW) (by rw [hil]; omega)
      rw [any_nm, hil] at hct
      rw [hil]
      obtain ⟨k1, rfl⟩ : ∃ k1, gk = k1 + 1 := ⟨gk - 1, by omega⟩
      have eN := fun (h : isName x.nm = false) => (scanE_bad (k := k1) hxi (by rw [symE_name h]; simp)).symm.trans hsc |>.symm.trans (symE_name (d := headD L) (p := L.take i) h)
      have eD := fun (h : isName x.nm = true) h2 => (scanE_bad (k := k1) hxi (by rw [symE_dup h h2]; simp)).symm.trans hsc |>.symm.trans (symE_dup (d := headD L) (p := L.take i) h h2)
      have eR := fun (h : isName x.nm = true) h2 h3 => (scanE_bad (k := k1) hxi (by rw [symE_row h h2 h3]; exact h3)).symm.trans hsc |>.symm.trans (symE_row (d := headD L) (p := L.take i) h h2 h3)
      have eL := fun (h : isName x.nm = true) h2 h3 h4 => (scanE_bad (k := k1) hxi (by rw [symE_long h h2 h3 h4]; simp)).symm.trans hsc |>.symm.trans (symE_long (d := headD L) (p := L.take i) h h2 h3 h4)
      have eS := fun (h : isName x.nm = true) h2 h3 h4 h5 => (scanE_bad (k := k1) hxi (by rw [symE_size h h2 h3 h4 h5]; simp)).symm.trans hsc |>.symm.trans (symE_size (d := headD L) (p := L.take i) h h2 h3 h4 h5)
      have eO := fun (h : isName x.nm = true) h2 h3 h4 h5 => (scanE_ok (k := k1) hxi (symE_ok (d := headD L) (p := L.take i) h h2 h3 h4 h5)).symm.trans hsc
      clear hsc
      replace hN := Lib.hid hN
      replace hck := Lib.hid hck
      replace hct := Lib.hid hct
      replace eN := Lib.hid eN
      replace eD := Lib.hid eD
      replace eR := Lib.hid eR
      replace eL := Lib.hid eL
      replace eS := Lib.hid eS
      replace eO := Lib.hid eO
      rw [hil] at hown9
      replace hown9 := Lib.hid hown9
      generalize (L.take i).any (fun y => y.nm.toList == x.nm.toList) = bD at *
      generalize isName x.nm = bN at *
      generalize rowE x.row = bR at *
      generalize x.row.length = d at *
      generalize x.nm = nm at *
      generalize x.ra = ra at *
      generalize x.rc = rc at *
      clear hxi hmem hel her hown
      replace hil := Lib.hid hil
      have z1 : (i : Int) < (T : Int) := by omega
      have z2 : (0 : Int) ≤ (i : Int) := by omega
      have z3 : (0 : Int) < (n : Int) := by omega
      rw [Nat.zero_add] at hc1 hc2
      go_wp2_with fail
      have a1 := new2a wr (.string nm) (.slice ra d rc) 46
      have a2 := new2b wr (.string nm) (.slice ra d rc) 46
      have hfa : Fr wr (wr.alloc (.cells #[.string nm, .slice ra d rc] 46)) := (Fr.refl wr).alloc _
      refine (hN.out _ hnl).mono ?_
      rintro e w2 ⟨rfl, rfl⟩
      cases bN with
      | false =>
        go_wp2_with fail
        go_ret
        exact ⟨ret_int (eN.out (by trivial)).symm, (hf.out.trans hfr).trans hfa⟩
      | true =>
      go_wp2_with fail
      refine (hct.out _ hfa).mono ?_
      rintro e w3 ⟨rfl, hf3⟩
      have b1 := hf3.keep a1.1
      have b2 := hf3.keep a2.1
      have hfb := hfa.trans hf3
      clear a1 a2
      cases bD with
      | true =>
        go_wp2_with fail
        go_ret
        exact ⟨ret_int (eD.out (by trivial) (by trivial)).symm, (hf.out.trans hfr).trans hfb⟩
      | false =>
      have hxo : some wr.heap.size ≠ (Value.slice ar i cr).ownBlock := fun e => by have := (hown9.out.lt _ e.symm).2; omega
      replace hxo := Lib.hid hxo
      go_wp2_with (at_builtin; refine wpList_append_lies _ rfl _ _ 95 (by rfl) _ 9 _ _ 1 16 Tryz.underlying95 hi0 hz0 hz1 hz2 rfl (by decide) _ i _ (by rfl) (World.ownsRow.alloc (ownsRow_fr hown9.out hfb) _) ⟨w3.heap.size, 0, none⟩ 1 1 [.string nm] (by rfl) rfl (cell_one_newN _ _ _ _ (by simp)) (by simp [Value.oneCell']) (by decide) (by unfold maxLen; omega) (by omega) (by have := (hfr.trans hfb).size; simp; omega) (w3.heap.size + 1) (by simp) ?_; intro gA capA wA hownA hgrowA hatA hltA; replace b2 := hgrowA.cell (((Fr.refl w3).alloc _).keep b2) hxo.out)
      have hfA : Fr w1 wA := ((hfr.trans hfb).alloc _).grown hgrowA (fun k e => (hown9.out.lt k e).1)
      refine (hck.out _ hfA).mono ?_
      rintro e w4 ⟨rfl, hf4⟩
      have c2 := hf4.keep b2
      have m0 := (hfA.trans hf4).keep n0
      have m4 := (hfA.trans hf4).keep hc4
      have hfc := hfA.trans hf4
      replace hownA := ownsRow_fr hownA hf4
      clear b1 b2 hct hck hN hc1 hc2 hfa hfb hf3 hxo
      by_cases h3 : bR ≠ 0
      · have q1 : (bR != 0) = true := by rw [bne_iff_ne]; exact h3
        go_wp2_with fail
        go_ret
        exact ⟨ret_int (eR.out (by trivial) (by trivial) h3).symm, hf.out.trans hfc⟩
      replace h3 : bR = 0 := Decidable.of_not_not h3
      have q1 : (bR != 0) = false := by rw [h3]; rfl
      replace h3 := Lib.hid h3
      by_cases h4 : 12 < d
      · have q2 : decide ((12 : Int) < (d : Int)) = true := decide_eq_true (by omega)
        go_wp2_with fail
        go_ret
        exact ⟨ret_int (eL.out (by trivial) (by trivial) h3.out h4).symm, hf.out.trans hfc⟩
      have q2 : decide ((12 : Int) < (d : Int)) = false := decide_eq_false (by omega)
      by_cases h5 : d ≠ d0
      · have q3 : ((d : Int) != (d0 : Int)) = true := by rw [bne_iff_ne]; omega
        go_wp2_with fail
        go_quiet (fail)
        go_wp2_with fail
        go_ret
        exact ⟨ret_int (eS.out (by trivial) (by trivial) h3.out h4 (by rw [hd0.out]; exact h5)).symm, hf.out.trans (hfc.drewN _)⟩
      replace h5 : d = d0 := Decidable.of_not_not h5
      have q3 : ((d : Int) != (d0 : Int)) = false := by rw [h5]; simp
      have hO := Lib.hid (eO.out (by trivial) (by trivial) h3.out h4 (by rw [hd0.out]; exact h5))
      clear eN eD eR eL eS eO
      replace h5 := Lib.hid h5
      replace hownA := Lib.hid hownA
      go_wp2_with fail
      go_quiet (fail)
      go_wp2_with fail
      go_roundg k1
      case measure => omega
      case rel => exact ⟨i + 1, by go_num, by omega, hO.out, hfc.drewN _, by show _; rw [hsnoc.out]; exact ownsRow_fr hownA.out ((Fr.refl _).drewN _)⟩
    · have hdI : decide (i < T) = false := decide_eq_false hi
      obtain rfl : gk = 0 := by omega
      have hfin := Lib.hid (show (0 : Int) = E from hsc)
      go_wp2_with fail
      go_ret
      exact ⟨ret_int hfin.out, hf.out.trans hfr⟩
end Go.Proofs.YtbpfkmpkadimeaaGreatDoor

/- Interval passes the error of Check on. -/
namespace Go.Proofs.YtbpfkmpkadimeaaGreatDoor
open Go.RowKit Go.Lib
attribute [local go_sem ↓] Go.wp_at_zero Go.wp_at_succ

set_option maxRecDepth 100000 in
set_option maxHeartbeats 1000000 in
theorem Interval_err (er : Int) (aN aA : Option Addr) (nN cN nA cA : Nat) (tp tc tm qa : Value) (q1 : Value) (w : World) (hC : ChkBad w er aN aA nN cN nA cA) (he : er ≠ 0) :
    Calls Tryz.prog 28 #[.agg #[.slice aN nN cN, .slice aA nA cA], .agg #[tp, tc, tm], .agg #[qa, q1]] w fun e w' => e = .returned (.tuple #[.agg #[.int .i64 0, .slice none 0 0], .bool false, .int .i64 er]) ∧ Fr w w' := by
  obtain ⟨wb, hwb⟩ : ∃ wb, wb = alls w [(.cells #[.slice aN nN cN, .slice aA nA cA] 31), (.cells #[tp, tc, tm] 59), (.cells #[qa, q1] 73), (.cells #[.int .i64 0, .slice none 0 0] 50)] := ⟨_, rfl⟩
  have hfb : Fr w wb := by rw [hwb]; exact alls_fr _ w
  have g0 : wb.heap[w.heap.size]? = some (.cells #[.slice aN nN cN, .slice aA nA cA] 31 (0, 0)) := by rw [hwb]; exact alls_get _ w 0 _ rfl
  have g1 : wb.heap[w.heap.size + 3]? = some (.cells #[.int .i64 0, .slice none 0 0] 50 (0, 0)) := by rw [hwb]; exact alls_get _ w 3 _ rfl
  have b0 : wb.cell? ⟨w.heap.size, 0, none⟩ = some (.slice aN nN cN) := cells_of g0 0
  have b1 : wb.cell? ⟨w.heap.size, 1, none⟩ = some (.slice aA nA cA) := cells_of g0 1
  have q4 : wb.cell? ⟨w.heap.size + 1 + 1 + 1, 0, none⟩ = some (.int .i64 0) := cells_of g1 0
  have q5 : wb.cell? ⟨w.heap.size + 1 + 1 + 1, 1, none⟩ = some (.slice none 0 0) := cells_of g1 1
  have q6 : wb.frozen? ⟨w.heap.size + 1 + 1 + 1, 0, none⟩ = false := by unfold World.frozen?; rw [g1]; rfl
  have q7 : wb.frozen? ⟨w.heap.size + 1 + 1 + 1, 1, none⟩ = false := by unfold World.frozen?; rw [g1]; rfl
  clear g0 g1
  have hal := Lib.hid (hC wb hfb)
  have d1 : (er != 0) = true := bne_iff_ne.2 he
  clear hC
  replace he := Lib.hid he
  go_enter Tryz.func28, Tryz.ntmps28
  go_upto_region 1 with (fail)
  change Code.wp _ _ _ _ (alls w [(.cells #[.slice aN nN cN, .slice aA nA cA] 31), (.cells #[tp, tc, tm] 59), (.cells #[qa, q1] 73), (.cells #[.int .i64 0, .slice none 0 0] 50)])
  rw [← hwb]
  clear hwb
  go_wp2_with fail
  refine hal.out.mono ?_
  rintro e w2 ⟨rfl, hf2⟩
  replace q6 := hf2.keepf q4 q6
  replace q7 := hf2.keepf q5 q7
  replace q4 := hf2.keep q4
  replace q5 := hf2.keep q5
  have qs := two_store w2 (w.heap.size + 1 + 1 + 1) (.int .i64 0) (.slice none 0 0) _ _ q4 q5
  have q8 := qs.2.2.1
  have u0 := Lib.hid qs.1
  have u1 := Lib.hid qs.2.1
  have hfx := Lib.hid qs.2.2.2
  clear qs
  go_wp2_with fail
  have v0 := u0.out
  have v1 := u1.out
  refine bodyPost_ret (v := .tuple #[.agg #[.int .i64 0, .slice none 0 0], .bool false, .int .i64 er]) (by simp [results, Tryz.results28, go_sem, v0, v1]) rfl ⟨rfl, ?_⟩
  exact ((Fx.of_fr (p := fun q => q = w.heap.size + 1 + 1 + 1) (hfb.trans hf2)).trans hfx.out).toFr (fun q hq e => by have e : q = w.heap.size + 1 + 1 + 1 := e; omega)
end Go.Proofs.YtbpfkmpkadimeaaGreatDoor
