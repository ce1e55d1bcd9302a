/- Notations; spelling.Check of a right one. -/
import Derived.Test.YtphjfalibnnohaaGreatDoorConcat
import Derived.Deep.QuietTactic
import Derived.BigQuiet
namespace Go.Proofs.YtphjfalibnnohaaGreatDoor
open Go.RowKit Go.Lib

/-- a symbol, and where its row lies -/
structure Sy where
  nm : ByteArray
  row : List Int
  ra : Option Addr
  rc : Nat
def Sy.enc (x : Sy) : Value × Value := (.string x.nm, .slice x.ra x.row.length x.rc)
theorem Sy.one (l : List Sy) : ∀ z, z ∈ l.map Sy.enc → z.1.oneCell' = true ∧ z.2.oneCell' = true := fun z hz => by
  obtain ⟨x, -, rfl⟩ := List.mem_map.1 hz
  exact ⟨rfl, rfl⟩
def Syms (w : World) (a : Option Addr) (xs : List Sy) : Prop := Prs w a (xs.map Sy.enc) ∧ ∀ x, x ∈ xs → El w iv x.ra x.row
theorem Syms.fr {w w' : World} {a : Option Addr} {xs : List Sy} (h : Syms w a xs) (k : Fr w w') : Syms w' a xs := ⟨h.1.fr k, fun x hx => (h.2 x hx).fr k⟩
/-- what stands at a place -/
theorem Syms.at {w : World} {a : Option Addr} {xs : List Sy} (h : Syms w a xs) {i : Nat} (hi : i < xs.length) :
    ∃ b o x, a = some ⟨b, o, none⟩ ∧ b < w.heap.size ∧ xs[i]? = some x ∧ w.cell? ⟨b, o + i * 2, none⟩ = some (.string x.nm) ∧ w.cell? ⟨b, o + i * 2 + 1, none⟩ = some (.slice x.ra x.row.length x.rc) ∧ El w iv x.ra x.row := by
  obtain ⟨b, o, z, ha, hb, hz, hc, hc2⟩ := h.1.at (i := i) (by rw [List.length_map]; exact hi)
  rw [List.getElem?_map, List.getElem?_eq_getElem hi] at hz
  injection hz with hz
  subst hz
  exact ⟨b, o, xs[i], ha, hb, List.getElem?_eq_getElem hi, hc, hc2, h.2 _ (List.getElem_mem hi)⟩

structure NotIs (w : World) (aN aA : Option Addr) (cA : Nat) (N A : List Sy) : Prop where
  noms : Syms w aN N
  accs : Syms w aA A
  nil : aA = none → cA = 0 ∧ A = []
theorem NotIs.fr {w w' : World} {aN aA : Option Addr} {cA : Nat} {N A : List Sy} (h : NotIs w aN aA cA N A) (k : Fr w w') : NotIs w' aN aA cA N A := ⟨h.1.fr k, h.2.fr k, h.3⟩

/-- a right notation with rows of d elements -/
structure NotOk (d : Nat) (N A : List Sy) : Prop where
  n1 : 0 < N.length
  n60 : N.length ≤ 60
  a6 : A.length ≤ 6
  d12 : d ≤ 12
  row : ∀ x, x ∈ N ++ A → x.row.length = d
  fit : ∀ x, x ∈ N ++ A → ∀ y, y ∈ x.row → fitB y = true
  nm : ∀ x, x ∈ N ++ A → isName x.nm = true
  dis : ∀ (i j : Nat) (x y : Sy), (N ++ A)[i]? = some x → (N ++ A)[j]? = some y → i < j → x.nm ≠ y.nm

theorem isName_le {s : ByteArray} (h : isName s = true) : s.size ≤ 32 := by
  unfold isName at h
  rw [Bool.and_eq_true] at h
  exact (of_decide_eq_true h.1).2

set_option maxHeartbeats 400000 in
theorem SCheck1_pred (w : World) (p : Nat) (nm : ByteArray) (xs : List Sy) (hc : w.cell? ⟨p, 0, none⟩ = some (.string nm)) :
    PredP w 71 #[.pointer (some ⟨p, 0, none⟩)] Sy.enc (fun y => y.nm.toList == nm.toList) xs := fun x W _ hW => by
  show Calls Tryz.prog 71 #[.agg #[.string x.nm, .slice x.ra x.row.length x.rc], .pointer (some ⟨p, 0, none⟩)] W _
  have h1 := hW.keep hc
  have p1 := (Fr.refl W).alloc (.cells #[.string x.nm, .slice x.ra x.row.length x.rc] 35) |>.keep h1
  clear hc hW
  go_enter Tryz.func71, Tryz.ntmps71
  go_wp2_with fail
  go_ret
  exact ⟨rfl, (Fr.refl _).alloc _⟩

theorem take_any_false {α : Type} (p : α → Bool) (l : List α) (i : Nat) (h : ∀ (j : Nat) (y : α), l[j]? = some y → j < i → p y = false) : (l.take i).any p = false := by
  rw [List.any_eq_false]
  intro y hy
  obtain ⟨j, hj⟩ := List.getElem?_of_mem hy
  rw [List.getElem?_take] at hj
  split at hj
  · rename_i hji; rw [h j y hj hji]; simp
  · simp at hj

set_option maxRecDepth 100000 in
set_option maxHeartbeats 4000000 in
theorem SCheck_ok (d : Nat) (aN aA : Option Addr) (cN cA : Nat) (N A : List Sy) (w : World) (hn : NotIs w aN aA cA N A) (hok : NotOk d N A) :
    Calls Tryz.prog 36 #[.agg #[.slice aN N.length cN, .slice aA A.length cA]] w fun e w' => e = .returned (.int .i64 0) ∧ Fr w w' := by
  have hn1 := hok.n1
  have hn60 := hok.n60
  have ha6 := hok.a6
  have hd12 := hok.d12
  have hcat : ∀ W : World, Fr w W → ∀ (p c : Nat), p < W.heap.size → W.cell? ⟨p, 0, none⟩ = some (.slice aN N.length cN) → W.cell? ⟨p, 1, none⟩ = some (.slice aA A.length cA) →
      Calls Tryz.prog 68 #[.slice (some ⟨p, 0, none⟩) 2 c] W (fun e w' => ∃ g cp, e = .returned (.slice (some ⟨g, 0, none⟩) (N ++ A).length cp) ∧ Syms w' (some ⟨g, 0, none⟩) (N ++ A) ∧ (N ++ A).length ≤ cp ∧ Fr W w') := fun W hW p c hp h1 h2 => by
    have hN := hn.fr hW
    have h := Concat_sym p c aN aA cN cA (N.map Sy.enc) (A.map Sy.enc) W hp (by rw [List.length_map]; exact h1) (by rw [List.length_map]; exact h2) hN.noms.1 hN.accs.1 (fun e => ⟨(hN.nil e).1, by rw [(hN.nil e).2]; rfl⟩) (Sy.one N) (Sy.one A) (by rw [List.length_map, List.length_map]; omega) (by rw [List.length_map]; exact hn1)
    rw [← List.map_append] at h
    refine h.mono ?_
    rintro e w' ⟨g, cp, rfl, hp', -, hcp, hf⟩
    refine ⟨g, cp, by rw [List.length_map], ⟨hp', fun x hx => ?_⟩, by rw [List.length_map] at hcp; exact hcp, hf⟩
    rcases List.mem_append.1 hx with h9 | h9
    · exact (hN.noms.2 x h9).fr hf
    · exact (hN.accs.2 x h9).fr hf
  have hlen : (N ++ A).length = N.length + A.length := List.length_append
  have hrow := hok.row
  have hfit := hok.fit
  have hnm := hok.nm
  have hdis := hok.dis
  obtain ⟨T, hT⟩ : ∃ T, T = (N ++ A).length := ⟨_, rfl⟩
  rw [← hT] at hcat hlen
  have hT1 : 0 < T := by omega
  have hT2 : T ≤ 66 := by omega
  obtain ⟨n, hnn⟩ : ∃ n, n = N.length := ⟨_, rfl⟩
  obtain ⟨a, han⟩ : ∃ a, a = A.length := ⟨_, rfl⟩
  rw [← hnn] at hcat hn1 hn60 ⊢
  rw [← han] at hcat ha6 ⊢
  generalize N ++ A = L at *
  have d1 : ((n : Int) == 0) = false := beq_false_of_ne (by omega)
  replace hcat := Lib.hid hcat
  replace hrow := Lib.hid hrow
  replace hfit := Lib.hid hfit
  replace hnm := Lib.hid hnm
  replace hdis := Lib.hid hdis
  replace hT := Lib.hid hT
  clear hn hok hlen hnn han
  go_enter Tryz.func36, Tryz.ntmps36
  go_wp2_with fail
  have f0 : Fr w (w.alloc (.cells #[.slice aN n cN, .slice aA a cA] 30)) := (Fr.refl w).alloc _
  have p1 := new2a (w.alloc (.cells #[.slice aN n cN, .slice aA a cA] 30)) (.slice aN n cN) (.slice aA a cA) 28
  have p2 := new2b (w.alloc (.cells #[.slice aN n cN, .slice aA a cA] 30)) (.slice aN n cN) (.slice aA a cA) 28
  rw [show (w.alloc (.cells #[.slice aN n cN, .slice aA a cA] 30)).heap.size = w.heap.size + 1 by simp] at p1 p2
  refine (hcat.out _ (f0.alloc _) (w.heap.size + 1) 2 (by simp) p1.1 p2.1).mono ?_
  rintro e w1 ⟨g, cp, rfl, hsy, hcp, hf1⟩
  have hf : Fr w w1 := (f0.alloc _).trans hf1
  clear p1 p2 f0 hcat hf1
  replace hsy := Lib.hid hsy
  go_wp2_with fail
  go_loopg [29] T (fun k s29 wr => ∃ i : Nat, s29 = .int .i64 i ∧ i + k = T ∧ Fr w1 wr)
  case atStart => exact ⟨0, rfl, by omega, Fr.refl _⟩
  case round =>
    obtain ⟨i, rfl, hik, hfr⟩ := hrel
    by_cases hi : i < T
    · have hdI : decide (i < T) = true := decide_eq_true hi
      obtain ⟨b, o, x, hae, hbl, hxi, hc1, hc2, hel⟩ := (hsy.out.fr hfr).at (i := i) (by rw [← hT.out]; exact hi)
      injection hae with hae; injection hae with h1 h2
      subst h1; subst h2
      obtain ⟨b, o, x0, hae, hbl0, hx0, hc3, hc4, hel0⟩ := (hsy.out.fr hfr).at (i := 0) (by rw [← hT.out]; exact hT1)
      injection hae with hae; injection hae with h1 h2
      subst h1; subst h2
      have hmem : x ∈ L := List.mem_of_getElem? hxi
      have hrl := hrow.out x hmem
      rw [hrow.out x0 (List.mem_of_getElem? hx0)] at hc4
      rw [hrl] at hc2
      have hnmx := hnm.out x hmem
      have hN := IsName_any x.nm
      rw [hnmx] at hN
      have hany : (L.take i).any (fun y => y.nm.toList == x.nm.toList) = false := take_any_false _ _ _ (fun j y hj hji => by
        have h := hdis.out j i y x hj hxi hji
        refine beq_false_of_ne (fun e => h ?_)
        rw [ByteArray.toList_eq, ByteArray.toList_eq] at e
        exact ba_ext e)
      have hck := fun W (hW : Fr wr W) => Check_row x.row x.ra x.rc W (hel.fr hW) (by rw [hrl]; omega)
      rw [rowE_ok (by rw [hrl]; omega) (by rw [List.any_eq_false]; intro y hy; rw [hfit.out x hmem y hy]; simp), hrl] at hck
      have hnl := isName_le hnmx
      have eg : ∀ args w, (callFunc 71 args).run Tryz.prog w = .ok (.enter 71 args) w := enters_of Tryz.func71 (by kernel_rfl) rfl
      have hcf := fun (W : World) (hW : Fr wr W) (p : Nat) (hp : W.cell? ⟨p, 0, none⟩ = some (.string x.nm)) =>
        ContainsFunc_sym Sy.enc (L.take i) (some ⟨g, 0, none⟩) cp 71 #[.pointer (some ⟨p, 0, none⟩)] (fun y => y.nm.toList == x.nm.toList) W eg (by rw [List.map_take]; exact ((hsy.out.fr hfr).fr hW).1.take i) (by rw [List.length_take]; omega) (SCheck1_pred W p x.nm _ hp)
      rw [hany, List.length_take, Nat.min_eq_left (by rw [← hT.out]; omega)] at hcf
      replace hN := Lib.hid hN
      replace hck := Lib.hid hck
      replace hcf := Lib.hid hcf
      generalize x.nm = nm at *
      generalize x.ra = ra at *
      generalize x.rc = rc at *
      generalize x0.ra = ra0 at *
      generalize x0.rc = rc0 at *
      generalize x0.nm = nm0 at *
      clear hxi hx0 hmem hrl hnmx hany eg hel hel0 hc3
      have z1 : (i : Int) < (T : Int) := by omega
      have z2 : (0 : Int) ≤ (i : Int) := by omega
      rw [Nat.zero_mul, Nat.add_zero] at hc4
      rw [Nat.zero_add] at hc1 hc2
      go_wp2_with fail
      have a1 := new2a wr (.string nm) (.slice ra d rc) 35
      have a2 := new2b wr (.string nm) (.slice ra d rc) 35
      have hfa : Fr wr (wr.alloc (.cells #[.string nm, .slice ra d rc] 35)) := (Fr.refl wr).alloc _
      refine (hN.out _ (by omega)).mono ?_
      rintro e w2 ⟨rfl, rfl⟩
      go_wp2_with fail
      refine (hcf.out _ hfa _ a1.1).mono ?_
      rintro e w3 ⟨rfl, hf3⟩
      have b2 := hf3.keep a2.1
      have hfb := hfa.trans hf3
      clear a1 a2
      go_wp2_with fail
      refine (hck.out _ hfb).mono ?_
      rintro e w4 ⟨rfl, hf4⟩
      have c2 := hf4.keep b2
      have c4 := (hfb.trans hf4).keep hc4
      have hfc := hfb.trans hf4
      clear b2 hcf hck hN hc1 hc2 hc4 hfa hfb hf3 hf4
      go_wp2_with fail
      go_quiet (fail)
      go_wp2_with fail
      go_roundg (gk - 1)
      case measure => omega
      case rel => exact ⟨i + 1, by go_num, by omega, (hfr.trans hfc).drewN _⟩
    · have hdI : decide (i < T) = false := decide_eq_false hi
      go_wp2_with fail
      go_ret
      exact ⟨rfl, hf.trans hfr⟩
end Go.Proofs.YtphjfalibnnohaaGreatDoor
