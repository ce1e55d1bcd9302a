/-
  Contracts and laws for the statements of the seat, QRd.
-/
import Derived.Test.YtkjemicelmabdaaGreatDoorQNA
import Derived.Test.YtkjemicelmabdaaGreatDoorQEl
import Derived.Test.YtkjemicelmabdaaGreatDoorQMk

/- schismalaw42.spelling, short, read. -/
namespace Go.Proofs.YtkjemicelmabdaaGreatDoor
open Go.RowKit Go.Lib
attribute [local go_sem ↓] Go.wp_at_zero Go.wp_at_succ
end Go.Proofs.YtkjemicelmabdaaGreatDoor

/- notation.Read at every spelling of a small right notation: the row, or the first error. -/
namespace Go.Proofs.YtkjemicelmabdaaGreatDoor
open Go.RowKit Go.Lib
attribute [local go_sem ↓] Go.wp_at_zero Go.wp_at_succ
end Go.Proofs.YtkjemicelmabdaaGreatDoor

/- schismalaw42.NotationReads returns true at every draft and spelling. -/
namespace Go.Proofs.YtkjemicelmabdaaGreatDoor
open Go.RowKit Go.Lib
attribute [local go_sem ↓] Go.wp_at_zero Go.wp_at_succ

/-- rows of small numbers -/
def Row9 (d : Nat) (q : List Int) : Prop:=q.length = d ∧ ∀ x,x ∈ q → x.natAbs ≤ 9
/-- a right notation of a draft in memory -/
structure Nt42 (w : World) (aN aA : Option Addr) (cN cA M d : Nat) (N A : List Sy) : Prop where
 hn : NotIs w aN aA cA N A
 hM : N.length = M
 hd : A.length = d
 d3 : d ≤ 3
 m1 : 1 ≤ M
 m8 : M ≤ 8
 rN : ∀ x,x ∈ N → x.nm.size = 1 ∧ Row9 d x.row
 rA : ∀ x,x ∈ A → x.nm.size = 1 ∧ Row9 d x.row
 fine : nchkE N A d = 0
 red : ∃ Fq,redTo ((A.map Sy.row).map qrow) d = some Fq ∧ Fq.lead.length = d
 nmN : N.map Sy.nm = (List.range M).map nmD
 nmA : A.map Sy.nm = (List.range d).map anD
theorem Nt42.fr {w w' : World} {aN aA : Option Addr} {cN cA M d : Nat} {N A : List Sy} (h : Nt42 w aN aA cN cA M d N A) (k : Fr w w') : Nt42 w' aN aA cN cA M d N A:=⟨h.hn.fr k,h.hM,h.hd,h.d3,h.m1,h.m8,h.rN,h.rA,h.fine,h.red,h.nmN,h.nmA⟩
theorem Nt42.check {w : World} {aN aA : Option Addr} {cN cA M d : Nat} {N A : List Sy} (h : Nt42 w aN aA cN cA M d N A) (hG : G w) : Calls Tryz.prog 27 #[.agg #[.slice aN M cN,.slice aA d cA]] w fun e w' => e = .returned (.int .i64 0) ∧ Fr w w':=by
 have hc:=NCheck_any aN aA cN cA d N A w hG h.hn (fun x hx => by
  rcases List.mem_append.1 hx with h9 | h9
  ·have h1:=(h.rN x h9).1
   have h2:=(h.rN x h9).2.1
   have:=h.d3
   exact ⟨by omega,by omega⟩
  ·have h1:=(h.rA x h9).1
   have h2:=(h.rA x h9).2.1
   have:=h.d3
   exact ⟨by omega,by omega⟩) (by have:=h.hM; have:=h.m8; omega) (by have:=h.hd; have:=h.d3; omega) (fun _ _ _ _ => by
  have e : colsN (A.map Sy.row) = d:=by
   have hd:=h.hd
   match A,hd,h.rA with
   | [],hd,_ => exact hd
   | x :: A',_,hr => exact (hr x List.mem_cons_self).2.1
  rw [e]
  exact h.red)
 rw [h.fine,h.hM,h.hd] at hc
 exact hc
theorem Nt42.rowA {w : World} {aN aA : Option Addr} {cN cA M d : Nat} {N A : List Sy} (h : Nt42 w aN aA cN cA M d N A) : ∀ i,i < d → Row9 d (rowAt (A.map Sy.row) i):=fun i hi => by
 rw [rowAt_eq (by rw [List.length_map,h.hd]; exact hi),List.getElem_map]
 exact (h.rA _ (List.getElem_mem _)).2
end Go.Proofs.YtkjemicelmabdaaGreatDoor

/- The notation of a right draft. -/
namespace Go.Proofs.YtkjemicelmabdaaGreatDoor
open Go.RowKit Go.Lib
attribute [local go_sem ↓] Go.wp_at_zero Go.wp_at_succ

theorem nomsD_nms (d : Nat) (L : List (List Int)) : (nomsD d L).map Prod.fst = (List.range (nomsD d L).length).map nmD:=by
 unfold nomsD
 split
 ·rfl
 ·refine List.ext_getElem? (fun i => ?_)
  rw [List.getElem?_map,List.getElem?_mapIdx,List.getElem?_map,List.length_mapIdx]
  by_cases hi : i < (L.take 8).length
  ·rw [List.getElem?_eq_getElem hi,List.getElem?_range hi]; rfl
  ·rw [List.getElem?_eq_none (by omega),List.getElem?_eq_none (by rw [List.length_range]; omega)]; rfl
/-- the draft's notation is right -/
theorem nt42_of {w : World} {aN aA : Option Addr} {cN cA d r : Nat} {N A : List Sy} {L B : List (List Int)} (hn : NotIs w aN aA cA N A) (hN : bare N = nomsD d L) (hA : bare A = accsD d B) (d3 : d ≤ 3) (hL : Tri8 L) (hB : Tri8 B) (hBl : B.length = 3) (hf : nchkE N A r = 0) (hr : r ≤ d) (hred : r = d → ∃ Fq,redTo (((accsD d B).map Prod.snd).map qrow) d = some Fq ∧ Fq.lead.length = d) : Nt42 w aN aA cN cA N.length d N A:=by
 have hd : A.length = d:=by rw [← bare_len,hA]; unfold accsD; rw [List.length_map,List.length_range]
 have hpA:=accsD_ok d3 hB hBl
 have hpN:=nomsD_ok (d:=d) d3 hL
 have hrd : r = d:=by
  have h:=hf
  unfold nchkE at h
  split at h
  ·cases h
  ·split at h
   ·cases h
   ·split at h
    ·rename_i h1 h2 h3; exact absurd h h3
    ·split at h
     ·cases h
     ·omega
 have hm : 1 ≤ N.length ∧ N.length ≤ 8:=by
  rw [← bare_len,hN]
  unfold nomsD
  split
  ·exact ⟨Nat.le_refl _,by simp⟩
  ·rename_i h
   rw [List.length_mapIdx,List.length_take]
   have:=List.length_pos_iff.2 h
   omega
 refine ⟨hn,rfl,hd,d3,hm.1,hm.2,fun x hx => ?_,fun x hx => ?_,by rw [← hrd]; exact hf, ?_, ?_, ?_⟩
 ·obtain ⟨h1,h2,h3⟩:=hpN _ (by rw [← hN]; exact bare_mem rfl hx)
  exact ⟨h1,h2,h3⟩
 ·obtain ⟨h1,h2,h3⟩:=hpA _ (by rw [← hA]; exact bare_mem rfl hx)
  exact ⟨h1,h2,h3⟩
 ·have:=hred hrd
  rw [← hA,bare_rows] at this
  exact this
 ·rw [← bare_nms,hN,← bare_len,hN]; exact nomsD_nms d L
 ·rw [← bare_nms,hA]; unfold accsD; rw [List.map_map]; rfl
end Go.Proofs.YtkjemicelmabdaaGreatDoor
