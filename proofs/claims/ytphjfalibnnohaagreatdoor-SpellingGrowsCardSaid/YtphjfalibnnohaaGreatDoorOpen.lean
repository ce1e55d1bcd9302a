/- spelling.checkSpelling, open, Read, bound. -/
import Derived.Test.YtphjfalibnnohaaGreatDoorSum
namespace Go.Proofs.YtphjfalibnnohaaGreatDoor
open Go.RowKit Go.Lib

/-- the error of a spelling -/
def spE (N A : List Sy) (i : Int) (cs : List Int) : Int := if i < 0 ∨ (N.length : Int) ≤ i then 10 else if cs.length ≠ A.length then 5 else rowE cs

set_option maxRecDepth 100000 in
set_option maxHeartbeats 1000000 in
theorem checkSpelling_any (aN aA : Option Addr) (cN cA : Nat) (N A : List Sy) (i : Int) (cs : List Int) (ca : Option Addr) (cc : Nat) (w : World) (hcs : El w iv ca cs) (hl : cs.length ≤ 1000000000) (_hN : N.length ≤ 1000000000) (_hA : A.length ≤ 1000000000) :
    Calls Tryz.prog 73 #[.agg #[.slice aN N.length cN, .slice aA A.length cA], .agg #[.int .i64 i, .slice ca cs.length cc]] w fun e w' => e = .returned (.int .i64 (spE N A i cs)) ∧ Fr w w' := by
  have hck := fun W (hW : Fr w W) => Check_row cs ca cc W (hcs.fr hW) hl
  replace hck := Lib.hid hck
  clear hcs
  have hf2 : Fr w ((w.alloc (.cells #[.slice aN N.length cN, .slice aA A.length cA] 30)).alloc (.cells #[.int .i64 i, .slice ca cs.length cc] 42)) := ((Fr.refl w).alloc _).alloc _
  replace hf2 := Lib.hid hf2
  by_cases h1 : i < 0
  · have hfin := Lib.hid (show spE N A i cs = 10 by unfold spE; rw [if_pos (.inl h1)])
    have d1 : decide (i < 0) = true := decide_eq_true h1
    go_enter Tryz.func73, Tryz.ntmps73
    go_wp2_with fail
    go_ret
    exact ⟨ret_int hfin.out.symm, hf2.out⟩
  · by_cases h2 : (N.length : Int) ≤ i
    · have hfin := Lib.hid (show spE N A i cs = 10 by unfold spE; rw [if_pos (.inr h2)])
      have d1 : decide (i < 0) = false := decide_eq_false h1
      have d2 : decide ((N.length : Int) ≤ i) = true := decide_eq_true h2
      go_enter Tryz.func73, Tryz.ntmps73
      go_wp2_with fail
      go_ret
      exact ⟨ret_int hfin.out.symm, hf2.out⟩
    · have d1 : decide (i < 0) = false := decide_eq_false h1
      have d2 : decide ((N.length : Int) ≤ i) = false := decide_eq_false h2
      by_cases h3 : cs.length = A.length
      · have hfin := Lib.hid (show spE N A i cs = rowE cs by unfold spE; rw [if_neg (by omega), if_neg (by rw [h3]; simp)])
        have q3 : ((cs.length : Int) != A.length) = false := by rw [h3]; simp
        replace h3 := Lib.hid h3
        go_enter Tryz.func73, Tryz.ntmps73
        go_wp2_with fail
        refine (hck.out _ hf2.out).mono ?_
        rintro e w3 ⟨rfl, hf3⟩
        go_wp2_with fail
        go_ret
        exact ⟨ret_int hfin.out.symm, hf2.out.trans hf3⟩
      · have hfin := Lib.hid (show spE N A i cs = 5 by unfold spE; rw [if_neg (by omega), if_pos h3])
        have q3 : ((cs.length : Int) != A.length) = true := by rw [bne_iff_ne]; omega
        replace h3 := Lib.hid h3
        go_enter Tryz.func73, Tryz.ntmps73
        go_wp2_with fail
        go_ret
        exact ⟨ret_int hfin.out.symm, hf2.out⟩

/-- a spelling, and where its counts lie -/
structure Sp where
  i : Int
  cs : List Int
  ca : Option Addr
  cc : Nat
def Sp.enc (x : Sp) : Value × Value := (.int .i64 x.i, .slice x.ca x.cs.length x.cc)
def Sps (w : World) (a : Option Addr) (xs : List Sp) : Prop := Prs w a (xs.map Sp.enc) ∧ ∀ x, x ∈ xs → El w iv x.ca x.cs
theorem Sps.fr {w w' : World} {a : Option Addr} {xs : List Sp} (h : Sps w a xs) (k : Fr w w') : Sps w' a xs := ⟨h.1.fr k, fun x hx => (h.2 x hx).fr k⟩
theorem Sps.at {w : World} {a : Option Addr} {xs : List Sp} (h : Sps w a xs) {i : Nat} (hi : i < xs.length) :
    ∃ b o x, a = some ⟨b, o, none⟩ ∧ b < w.heap.size ∧ xs[i]? = some x ∧ w.cell? ⟨b, o + i * 2, none⟩ = some (.int .i64 x.i) ∧ w.cell? ⟨b, o + i * 2 + 1, none⟩ = some (.slice x.ca x.cs.length x.cc) ∧ El w iv x.ca x.cs := by
  obtain ⟨b, o, z, ha, hb, hz, hc, hc2⟩ := h.1.at (i := i) (by rw [List.length_map]; exact hi)
  rw [List.getElem?_map, List.getElem?_eq_getElem hi] at hz
  injection hz with hz
  subst hz
  exact ⟨b, o, xs[i], ha, hb, List.getElem?_eq_getElem hi, hc, hc2, h.2 _ (List.getElem_mem hi)⟩

/-- the first error of spellings -/
def spsE (N A : List Sy) : List Sp → Int
  | [] => 0
  | x :: l => if spE N A x.i x.cs = 0 then spsE N A l else spE N A x.i x.cs

set_option maxRecDepth 100000 in
set_option maxHeartbeats 4000000 in
theorem open_any (d : Nat) (aN aA : Option Addr) (cN cA : Nat) (N A : List Sy) (xs : List Sp) (a : Option Addr) (c : Nat) (w : World) (hn : NotIs w aN aA cA N A) (hok : NotOk d N A) (hx : Sps w a xs) (hl : xs.length ≤ 1000000) (hls : ∀ x, x ∈ xs → x.cs.length ≤ 1000000000) :
    Calls Tryz.prog 41 #[.agg #[.slice aN N.length cN, .slice aA A.length cA], .slice a xs.length c] w fun e w' => e = .returned (.int .i64 (spsE N A xs)) ∧ Fr w w' := by
  have hn60 := hok.n60
  have ha6 := hok.a6
  have hck := fun W (hW : Fr w W) => SCheck_ok d aN aA cN cA N A W (hn.fr hW) hok
  have hcs := fun (x : Sp) W (hW : Fr w W) (hm : x ∈ xs) => checkSpelling_any aN aA cN cA N A x.i x.cs x.ca x.cc W ((hx.2 x hm).fr hW) (hls x hm) (by omega) (by omega)
  obtain ⟨n, hnn⟩ : ∃ n, n = xs.length := ⟨_, rfl⟩
  rw [← hnn] at hl ⊢
  replace hck := Lib.hid hck
  replace hcs := Lib.hid hcs
  replace hx := Lib.hid hx
  replace hnn := Lib.hid hnn
  replace hls := Lib.hid hls
  clear hn hok
  have hfA : Fr w (w.alloc (.cells #[.slice aN N.length cN, .slice aA A.length cA] 30)) := (Fr.refl w).alloc _
  have p1 := new2a w (.slice aN N.length cN) (.slice aA A.length cA) 30
  have p2 := new2b w (.slice aN N.length cN) (.slice aA A.length cA) 30
  replace hfA := Lib.hid hfA
  replace p1 := Lib.hid p1.1
  replace p2 := Lib.hid p2.1
  go_enter Tryz.func41, Tryz.ntmps41
  go_wp2_with fail
  refine (hck.out _ hfA.out).mono ?_
  rintro e w1 ⟨rfl, hf1⟩
  have hfw := hfA.out.trans hf1
  have q1 := hf1.keep p1.out
  have q2 := hf1.keep p2.out
  clear hck p1 p2 hfA hf1
  go_wp2_with fail
  go_loopg [16] n (fun k s16 wr => ∃ j : Nat, s16 = .int .i64 j ∧ j + k = n ∧ Fr w1 wr ∧ Hid (spsE N A xs = spsE N A (xs.drop j)))
  case atStart => exact ⟨0, rfl, by omega, Fr.refl _, Lib.hid (by simp)⟩
  case round =>
    obtain ⟨j, rfl, hjk, hf, he⟩ := hrel
    by_cases hj : j < n
    · have hdJ : decide (j < n) = true := decide_eq_true hj
      obtain ⟨b, o, x, rfl, hb, hxj, hc1, hc2, -⟩ := (hx.out.fr (hfw.trans hf)).at (i := j) (by rw [← hnn.out]; exact hj)
      have hsp := hcs.out x (wr.alloc (.cells #[.int .i64 x.i, .slice x.ca x.cs.length x.cc] 42)) ((hfw.trans hf).alloc _) (List.mem_of_getElem? hxj)
      have hdx : xs.drop j = x :: xs.drop (j + 1) := by
        rw [List.drop_eq_getElem_cons (by rw [← hnn.out]; exact hj), (List.getElem?_eq_some_iff.1 hxj).2]
      rw [hdx, spsE] at he
      have r1 := hf.keep q1
      have r2 := hf.keep q2
      have r3 := ((Fr.refl wr).alloc (.cells #[.int .i64 x.i, .slice x.ca x.cs.length x.cc] 42)).keep r1
      have r4 := ((Fr.refl wr).alloc (.cells #[.int .i64 x.i, .slice x.ca x.cs.length x.cc] 42)).keep r2
      clear r1 r2
      clear hxj hdx
      generalize x.i = xi at *
      generalize x.cs.length = xl at *
      generalize x.ca = xa at *
      generalize x.cc = xc at *
      generalize x.cs = xcs at *
      generalize spE N A xi xcs = ee at *
      replace hsp := Lib.hid hsp
      have y1 : (j : Int) < (n : Int) := by omega
      have y0 : (0 : Int) ≤ (j : Int) := by omega
      by_cases h0 : ee = 0
      · subst h0
        have he := Lib.hid (show spsE N A xs = spsE N A (xs.drop (j + 1)) by have h := he.out; simpa using h)
        rename_i he0
        clear he0
        go_wp2_with fail
        refine hsp.out.mono ?_
        rintro e w3 ⟨rfl, hf3⟩
        go_wp2_with fail
        go_roundg (gk - 1)
        case measure => omega
        case rel => exact ⟨j + 1, by go_num, by omega, (hf.alloc _).trans hf3, he⟩
      · have hq : (ee != 0) = true := by rw [bne_iff_ne]; exact h0
        have hfin := Lib.hid (show spsE N A xs = ee by have h := he.out; rw [if_neg h0] at h; exact h)
        clear he
        go_wp2_with fail
        refine hsp.out.mono ?_
        rintro e w3 ⟨rfl, hf3⟩
        go_wp2_with fail
        go_ret
        exact ⟨ret_int hfin.out.symm, hfw.trans ((hf.alloc _).trans hf3)⟩
    · obtain rfl : j = n := by omega
      have hdJ : decide (j < j) = false := decide_eq_false (by omega)
      have hfin := Lib.hid (show spsE N A xs = 0 by
        have h := he.out
        rw [List.drop_of_length_le (by rw [← hnn.out]; exact Nat.le_refl _)] at h
        exact h)
      clear he
      go_wp2_with fail
      go_ret
      exact ⟨ret_int hfin.out.symm, hfw.trans hf⟩
end Go.Proofs.YtphjfalibnnohaaGreatDoor
