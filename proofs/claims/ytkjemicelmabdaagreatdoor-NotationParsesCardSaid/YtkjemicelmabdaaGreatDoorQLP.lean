/-
  Contracts and laws for the statements of the seat, QLP.
-/
import Derived.Test.YtkjemicelmabdaaGreatDoorQA
import Derived.Test.YtkjemicelmabdaaGreatDoorQC
import Derived.Test.YtkjemicelmabdaaGreatDoorQB
import Derived.Deep.RegionHeld3
import Derived.Deep.Cut
import Derived.IntWalk
import Derived.Test.YtkjemicelmabdaaGreatDoorQTx2
import Derived.Test.YtkjemicelmabdaaGreatDoorQPG
import Derived.Test.YtkjemicelmabdaaGreatDoorQD
import Derived.Test.YtkjemicelmabdaaGreatDoorQLC

/- a small fact on rows of the call's own. -/
namespace Go.Proofs.YtkjemicelmabdaaGreatDoor
open Go.RowKit Go.Lib
end Go.Proofs.YtkjemicelmabdaaGreatDoor

/- schismaref03.plus. -/
namespace Go.Proofs.YtkjemicelmabdaaGreatDoor
open Go.RowKit Go.Lib
attribute [local go_sem ↓] Go.wp_at_zero Go.wp_at_succ
theorem drop_cons {l : List Int} {j : Nat} {x : Int} (h : l[j]? = some x) : l.drop j = x :: l.drop (j + 1):=by
 obtain ⟨h1,rfl⟩:=List.getElem?_eq_some_iff.1 h
 exact List.drop_eq_getElem_cons h1

end Go.Proofs.YtkjemicelmabdaaGreatDoor

/- schismaref03.minus. -/
namespace Go.Proofs.YtkjemicelmabdaaGreatDoor
open Go.RowKit Go.Lib
attribute [local go_sem ↓] Go.wp_at_zero Go.wp_at_succ
end Go.Proofs.YtkjemicelmabdaaGreatDoor

/- schismaref03.above. -/
namespace Go.Proofs.YtkjemicelmabdaaGreatDoor
open Go.RowKit Go.Lib
attribute [local go_sem ↓] Go.wp_at_zero Go.wp_at_succ
end Go.Proofs.YtkjemicelmabdaaGreatDoor

/- schismaref03.AddW. -/
namespace Go.Proofs.YtkjemicelmabdaaGreatDoor
open Go.RowKit Go.Lib
attribute [local go_sem ↓] Go.wp_at_zero Go.wp_at_succ

/-- a Whole reads as an integer -/
def WI (W : World) (z : Int) (v : Value) : Prop:=∃ a c,v = .agg #[.bool (decide (z < 0)),.slice a (digs z.natAbs).length c] ∧ El W iv a (digs z.natAbs) ∧ (digs z.natAbs).length ≤ c
theorem WI.fr {W W' : World} {z : Int} {v : Value} (h : WI W z v) (k : Fr W W') : WI W' z v:=by
 obtain ⟨a,c,e,h1,h2⟩:=h
 exact ⟨a,c,e,h1.fr k,h2⟩
theorem El.fxr {W W' : World} {a : Option Addr} {l : List Int} {r : Nat} (h : El W iv a l) (k : Fx (· = r) W W') (hr : ∀ ad,a = some ad → ad.block ≠ r) : El W' iv a l:=by
 rcases h with h | ⟨b,o,ha,hb,hc⟩
 ·exact .inl h
 ·exact .inr ⟨b,o,ha,Nat.lt_of_lt_of_le hb k.size,fun i x hx => k.keep (hc i x hx) (show b ≠ r from hr _ ha)⟩
theorem WI.stored {w wb w3 : World} {z : Int} {a : Option Addr} {c r : Nat} {W4 : World} (hfb : Fr w wb) (hz3 : Fr wb w3) (hfx : Fx (· = r) w3 W4) (hr : w.heap.size ≤ r) (he : El w3 iv a (digs z.natAbs)) (hc : (digs z.natAbs).length ≤ c) (hb : ∀ ad,a = some ad → ad.block ≠ r) :
 WI W4 z (.agg #[.bool (decide (z < 0)),.slice a (digs z.natAbs).length c]) ∧ Fr w W4 :=
 ⟨⟨a,c,rfl,he.fxr hfx hb,hc⟩,((Fx.of_fr (p:=fun q => w.heap.size ≤ q) (hfb.trans hz3)).trans (hfx.mono (fun q e => by have e : q = r:=e; omega))).toFr (fun q hq e => by have e : w.heap.size ≤ q:=e; omega)⟩
end Go.Proofs.YtkjemicelmabdaaGreatDoor

/- The row of a product, as plain lists. -/
namespace Go.Proofs.YtkjemicelmabdaaGreatDoor
open Go.RowKit Go.Lib

def rowL (d : Int) : List Int → List Int → Int → List Int
 | [],_,_ => []
 | o :: os,[],c => if 0 < c then ((c + o) % 1000000000) :: rowL d os [] ((c + o) / 1000000000) else o :: os
 | o :: os,b :: bs,c => ((c + o + d * b) % 1000000000) :: rowL d os bs ((c + o + d * b) / 1000000000)
theorem rowL_cc (d o b c : Int) (os bs : List Int) : rowL d (o :: os) (b :: bs) c = ((c + o + d * b) % 1000000000) :: rowL d os bs ((c + o + d * b) / 1000000000):=by rw [rowL]
theorem rowL_cn (d o c : Int) (os : List Int) : rowL d (o :: os) [] c = if 0 < c then ((c + o) % 1000000000) :: rowL d os [] ((c + o) / 1000000000) else o :: os:=by rw [rowL]
theorem rowL_n (d c : Int) (bs : List Int) : rowL d [] bs c = []:=by rw [rowL]
/-- the power of the base -/
def pw : Nat → Int
 | 0 => 1
 | n + 1 => 1000000000 * pw n
theorem pw_pos : ∀ n,0 < pw n
 | 0 => by show (0 : Int) < 1; omega
 | n + 1 => by have:=pw_pos n; show 0 < 1000000000 * pw n; omega
theorem val_lt : ∀ {l : List Int},Dg l → val l < pw l.length
 | [],_ => by show (0 : Int) < 1; omega
 | d :: l,h => by
   have h1:=h.cons.1
   have:=val_lt h.cons.2
   show d + 1000000000 * val l < 1000000000 * pw l.length
   omega
theorem val_append : ∀ (a b : List Int),val (a ++ b) = val a + pw a.length * val b
 | [],b => by show val b = 0 + 1 * val b; omega
 | d :: a,b => by
   show d + 1000000000 * val (a ++ b) = d + 1000000000 * val a + 1000000000 * pw a.length * val b
   rw [val_append a b,Int.mul_add,Int.mul_assoc]; omega
/-- the sum has its place -/
def FitW (d : Int) (os bs : List Int) (c : Int) : Prop:=val os + d * val bs + c < pw os.length
theorem FitW.step {d o b c : Int} {os bs : List Int} (h : FitW d (o :: os) (b :: bs) c) : FitW d os bs ((c + o + d * b) / 1000000000):=by
 unfold FitW at *
 have e : val (o :: os) + d * val (b :: bs) + c = (c + o + d * b) + 1000000000 * (val os + d * val bs):=by
  show o + 1000000000 * val os + d * (b + 1000000000 * val bs) + c = _
  rw [Int.mul_add,Int.mul_left_comm d]; omega
 rw [e] at h
 have h : c + o + d * b + 1000000000 * (val os + d * val bs) < 1000000000 * pw os.length:=h
 generalize val os + d * val bs = V at *
 generalize d * b = q at *
 omega
theorem FitW.step0 {d o c : Int} {os : List Int} (h : FitW d (o :: os) [] c) : FitW d os [] ((c + o) / 1000000000):=by
 unfold FitW at *
 have h : o + 1000000000 * val os + d * 0 + c < 1000000000 * pw os.length:=h
 show val os + d * 0 + _ < _
 rw [Int.mul_zero] at h ⊢
 omega
theorem FitW.ne {d c : Int} {bs : List Int} (h : FitW d [] bs c) (hd : 0 ≤ d) (hb : Dg bs) (hc : 0 ≤ c) : c = 0:=by
 unfold FitW at h
 have h : 0 + d * val bs + c < 1:=h
 have:=Int.mul_nonneg hd (val_nn hb)
 omega
theorem rowL_len (d : Int) : ∀ (os bs : List Int) (c : Int),(rowL d os bs c).length = os.length
 | [],bs,c => by rw [rowL_n]
 | o :: os,[],c => by
   rw [rowL_cn]
   split
   ·rw [List.length_cons,List.length_cons,rowL_len d os]
   ·rfl
 | o :: os,b :: bs,c => by rw [rowL_cc,List.length_cons,List.length_cons,rowL_len d os]
theorem rowL_dg {d : Int} (hd : 0 ≤ d ∧ d < 1000000000) : ∀ (os bs : List Int) (c : Int),Dg os → Dg bs → 0 ≤ c → Dg (rowL d os bs c)
 | [],bs,c,_,_,_ => by rw [rowL_n]; intro x hx; simp at hx
 | o :: os,[],c,ho,hb,hc => by
   rw [rowL_cn]
   have h1:=ho.cons
   split
   ·exact Dg.mk (by omega) (rowL_dg hd os [] _ h1.2 hb (by omega))
   ·exact ho
 | o :: os,b :: bs,c,ho,hb,hc => by
   rw [rowL_cc]
   have h1:=ho.cons
   have h2:=hb.cons
   have h3:=Int.mul_nonneg hd.1 h2.1.1
   exact Dg.mk (by omega) (rowL_dg hd os bs _ h1.2 h2.2 (by omega))
theorem rowL_val {d : Int} (hd : 0 ≤ d) : ∀ (os bs : List Int) (c : Int),Dg os → Dg bs → 0 ≤ c → FitW d os bs c → val (rowL d os bs c) = val os + d * val bs + c
 | [],bs,c,_,hb,hc,h => by
   rw [rowL_n]
   have h0:=h.ne hd hb hc
   unfold FitW at h
   have h : 0 + d * val bs + c < 1:=h
   have:=Int.mul_nonneg hd (val_nn hb)
   show (0 : Int) = 0 + d * val bs + c
   omega
 | o :: os,[],c,ho,hb,hc,h => by
   rw [rowL_cn]
   have h1:=ho.cons
   split
   ·have ih:=rowL_val hd os [] ((c + o) / 1000000000) h1.2 hb (by omega) h.step0
    show (c + o) % 1000000000 + 1000000000 * val (rowL d os [] ((c + o) / 1000000000)) = o + 1000000000 * val os + d * 0 + c
    rw [ih]
    show (c + o) % 1000000000 + 1000000000 * (val os + d * 0 + (c + o) / 1000000000) = _
    rw [Int.mul_zero]
    omega
   ·show o + 1000000000 * val os = o + 1000000000 * val os + d * 0 + c
    rw [Int.mul_zero]; omega
 | o :: os,b :: bs,c,ho,hb,hc,h => by
   rw [rowL_cc]
   have h1:=ho.cons
   have h2:=hb.cons
   have h3:=Int.mul_nonneg hd h2.1.1
   have ih:=rowL_val hd os bs ((c + o + d * b) / 1000000000) h1.2 h2.2 (by omega) h.step
   show (c + o + d * b) % 1000000000 + 1000000000 * val (rowL d os bs ((c + o + d * b) / 1000000000)) = o + 1000000000 * val os + d * (b + 1000000000 * val bs) + c
   rw [ih,Int.mul_add d,Int.mul_left_comm d]
   generalize d * val bs = q
   generalize d * b = r
   omega
theorem pw_add : ∀ (a b : Nat),pw (a + b) = pw a * pw b
 | 0,b => by rw [Nat.zero_add]; show pw b = 1 * pw b; omega
 | a + 1,b => by
   rw [Nat.add_right_comm]
   show 1000000000 * pw (a + b) = 1000000000 * pw a * pw b
   rw [pw_add a b,Int.mul_assoc]
theorem pw_mono {a b : Nat} (h : a ≤ b) : pw a ≤ pw b:=by
 obtain ⟨k,rfl⟩ : ∃ k,b = a + k:=⟨b - a,by omega⟩
 rw [pw_add]
 have h1:=pw_pos a
 have h2:=pw_pos k
 have:=Int.mul_le_mul_of_nonneg_left (show (1 : Int) ≤ pw k by omega) (Int.le_of_lt h1)
 omega
theorem Dg.take {l : List Int} (h : Dg l) (k : Nat) : Dg (l.take k):=fun x hx => h x (List.mem_of_mem_take hx)
theorem Dg.drop {l : List Int} (h : Dg l) (k : Nat) : Dg (l.drop k):=fun x hx => h x (List.mem_of_mem_drop hx)
/-- what the product's list holds when i digits of the first number are done -/
structure MulI (xs ys out : List Int) (i : Nat) : Prop where
 dg : Dg out
 len : out.length = xs.length + ys.length + 1
 vl : val out = val (xs.take i) * val ys
theorem MulI.fit {xs ys out : List Int} {i : Nat} {d : Int} (h : MulI xs ys out i) (hx : Dg xs) (hy : Dg ys) (hd : xs[i]? = some d) : FitW d (out.drop i) ys 0:=by
 obtain ⟨hi,he⟩:=List.getElem?_eq_some_iff.1 hd
 obtain ⟨d0,d1⟩:=hx d (List.mem_of_getElem? hd)
 have h1:=val_append (out.take i) (out.drop i)
 rw [List.take_append_drop,h.vl,List.length_take,h.len,Nat.min_eq_left (by omega)] at h1
 have h2:=val_lt (hx.take i)
 rw [List.length_take,Nat.min_eq_left (by omega)] at h2
 have h3:=val_lt hy
 have h4:=val_nn hy
 have h5:=val_nn (h.dg.take i)
 have h6:=val_nn (h.dg.drop i)
 have p1:=pw_pos i
 have p2:=pw_pos ys.length
 have h7 : pw i * val (out.drop i) < pw i * pw ys.length:=by
  have a1 : val (xs.take i) * val ys ≤ pw i * val ys:=Int.mul_le_mul_of_nonneg_right (by omega) h4
  have a2 : pw i * val ys < pw i * pw ys.length:=Int.mul_lt_mul_of_pos_left h3 p1
  omega
 have h8 : val (out.drop i) < pw ys.length:=Int.lt_of_mul_lt_mul_left h7 (Int.le_of_lt p1)
 have h9 : d * val ys ≤ 999999999 * val ys:=Int.mul_le_mul_of_nonneg_right (by omega) h4
 have h10:=pw_mono (show ys.length + 1 ≤ (out.drop i).length by rw [List.length_drop,h.len]; omega)
 have h11 : pw (ys.length + 1) = 1000000000 * pw ys.length:=rfl
 unfold FitW
 omega
theorem MulI.step {xs ys out : List Int} {i : Nat} {d : Int} (h : MulI xs ys out i) (hx : Dg xs) (hy : Dg ys) (hd : xs[i]? = some d) : MulI xs ys (out.take i ++ rowL d (out.drop i) ys 0) (i + 1):=by
 have hf:=h.fit hx hy hd
 obtain ⟨hi,he⟩:=List.getElem?_eq_some_iff.1 hd
 obtain ⟨d0,d1⟩:=hx d (List.mem_of_getElem? hd)
 have hl : (out.take i).length = i:=by rw [List.length_take,h.len]; omega
 refine ⟨?_, ?_, ?_⟩
 ·intro x hx'
  rcases List.mem_append.1 hx' with h1 | h1
  ·exact h.dg.take i x h1
  ·exact rowL_dg ⟨d0,d1⟩ _ _ _ (h.dg.drop i) hy (Int.le_refl _) x h1
 ·rw [List.length_append,hl,rowL_len,List.length_drop,h.len]; omega
 ·have h1:=val_append (out.take i) (out.drop i)
  rw [List.take_append_drop,h.vl,hl] at h1
  have h2 : xs.take (i + 1) = xs.take i ++ [d]:=by rw [List.take_add_one,hd]; rfl
  rw [val_append,rowL_val d0 _ _ _ (h.dg.drop i) hy (Int.le_refl _) hf,hl,h2,val_append,List.length_take,Nat.min_eq_left (by omega)]
  show val (out.take i) + pw i * (val (out.drop i) + d * val ys + 0) = (val (xs.take i) + pw i * (d + 1000000000 * 0)) * val ys
  rw [Int.add_zero,Int.mul_zero,Int.add_zero,Int.mul_add,Int.add_mul,← Int.add_assoc,← h1,Int.mul_assoc]
end Go.Proofs.YtkjemicelmabdaaGreatDoor

/- schismaref03.MulW. -/
namespace Go.Proofs.YtkjemicelmabdaaGreatDoor
open Go.RowKit Go.Lib
attribute [local go_sem ↓] Go.wp_at_zero Go.wp_at_succ

/-- a row of ints in a block of the call's own -/
def OwnJ (w : World) (b : Nat) (xs : List Int) : Prop :=
 b < w.heap.size ∧ ∀ j x,xs[j]? = some x → w.cell? ⟨b,j,none⟩ = some (iv x) ∧ w.frozen? ⟨b,j,none⟩ = false
theorem OwnJ.fx {p : Nat → Prop} {w w' : World} {b : Nat} {xs : List Int} (h : OwnJ w b xs) (k : Fx p w w') (hp : ¬ p b) : OwnJ w' b xs :=
 ⟨Nat.lt_of_lt_of_le h.1 k.size,fun j x hx => by rw [k.cell h.1 hp,k.frozen h.1 hp]; exact h.2 j x hx⟩
theorem OwnJ.fr {w w' : World} {b : Nat} {xs : List Int} (h : OwnJ w b xs) (k : Fr w w') : OwnJ w' b xs :=
 h.fx (p:=fun _ => False) (Fx.of_fr k) (fun e => e)
theorem OwnJ.set {w : World} {b : Nat} {xs : List Int} (h : OwnJ w b xs) {k : Nat} (hk : k < xs.length) (x : Int) : OwnJ (w.setCell ⟨b,k,none⟩ (iv x)) b (xs.set k x):=by
 obtain ⟨h2,h3⟩:=h
 refine ⟨by simpa [World.setCell] using h2,fun j y hy => ?_⟩
 rw [World.frozen?_setCell]
 rw [List.getElem?_set] at hy
 by_cases e : k = j
 ·subst e
  rw [if_pos rfl,if_pos hk] at hy
  injection hy with hy; subst hy
  have h4:=h3 k xs[k] (List.getElem?_eq_getElem hk)
  exact ⟨World.cell?_setCell_same' _ _ _ (by rw [h4.1]; rfl),h4.2⟩
 ·rw [if_neg e] at hy
  have h4:=h3 j y hy
  refine ⟨?_,h4.2⟩
  rw [World.cell?_setCell_other w ⟨b,k,none⟩ ⟨b,j,none⟩ _ (fun e2 => by injection e2 with e3 e4; omega)]
  exact h4.1
theorem OwnJ.el {w : World} {b : Nat} {xs : List Int} (h : OwnJ w b xs) : El w iv (some ⟨b,0,none⟩) xs :=
 .inr ⟨b,0,rfl,h.1,fun i x hx => by rw [Nat.zero_add]; exact (h.2 i x hx).1⟩

/-- the inner loop's word -/
structure RowI (d : Int) (pre F : List Int) (i N : Nat) (ys : List Int) (k : Nat) (c : Int) (cur : List Int) : Prop where
 len : cur.length = N
 dg : Dg cur
 fit : FitW d (cur.drop (i + k)) (ys.drop k) c
 eq : cur.take (i + k) ++ rowL d (cur.drop (i + k)) (ys.drop k) c = pre ++ F
theorem set_take {l : List Int} {j : Nat} (h : j < l.length) (v : Int) : (l.set j v).take (j + 1) = l.take j ++ [v]:=by
 rw [List.take_add_one,List.take_set_of_le (Nat.le_refl _),List.getElem?_set_self h]; rfl
theorem set_drop {l : List Int} {j : Nat} (v : Int) : (l.set j v).drop (j + 1) = l.drop (j + 1):=by
 rw [List.drop_set_of_lt (by omega)]
theorem Dg.set {l : List Int} (h : Dg l) (j : Nat) {v : Int} (hv : 0 ≤ v ∧ v < 1000000000) : Dg (l.set j v):=fun x hx => by
 rcases List.mem_or_eq_of_mem_set hx with h1 | rfl
 ·exact h x h1
 ·exact hv
theorem RowI.at {d : Int} {pre F : List Int} {i N : Nat} {ys : List Int} {k : Nat} {c : Int} {cur : List Int} (h : RowI d pre F i N ys k c cur) (hd : 0 ≤ d) (hy : Dg ys) (hc : 0 ≤ c) (hk : k < ys.length ∧ i + ys.length < N ∨ 0 < c) : i + k < N:=by
 rcases hk with h1 | h1
 ·omega
 ·by_cases hl : i + k < N
  ·exact hl
  ·have h2:=h.fit
   rw [List.drop_eq_nil_of_le (by rw [h.len]; omega)] at h2
   have:=h2.ne hd (hy.drop k) hc
   omega
theorem RowI.step0 {d : Int} {pre F : List Int} {i N : Nat} {ys : List Int} {k : Nat} {c o : Int} {cur : List Int} (h : RowI d pre F i N ys k c cur) (hc : 0 < c) (hb : ys.length ≤ k) (ho : cur[i + k]? = some o) :
 RowI d pre F i N ys (k + 1) ((c + o) / 1000000000) (cur.set (i + k) ((c + o) % 1000000000)):=by
 have hl:=(List.getElem?_eq_some_iff.1 ho).1
 have h1:=h.fit
 have h2:=h.eq
 rw [drop_cons ho,List.drop_eq_nil_of_le hb] at h1 h2
 refine ⟨by rw [List.length_set]; exact h.len,h.dg.set _ (by omega), ?_, ?_⟩
 ·rw [← Nat.add_assoc,set_drop,show ys.drop (k + 1) = [] from List.drop_eq_nil_of_le (by omega)]; exact h1.step0
 ·rw [← Nat.add_assoc,set_drop,set_take hl,← h2,show ys.drop (k + 1) = [] from List.drop_eq_nil_of_le (by omega),rowL_cn,if_pos hc,List.append_assoc]; rfl
theorem MulI.zero (xs ys : List Int) : MulI xs ys (List.replicate (xs.length + ys.length + 1) 0) 0:=by
 refine ⟨fun x hx => by have:=List.eq_of_mem_replicate hx; omega,List.length_replicate, ?_⟩
 have : ∀ n,val (List.replicate n 0) = 0:=fun n => by
  induction n with
  | zero => rfl
  | succ n ih => show (0 : Int) + 1000000000 * val (List.replicate n 0) = 0; rw [ih]; rfl
 rw [this]
 show (0 : Int) = 0 * val ys
 rw [Int.zero_mul]
theorem made_rep (v : Value) (n : Nat) : (madeCells #[v] n).toList = List.replicate n v:=by
 refine List.ext_getElem? (fun i => ?_)
 by_cases hi : i < n
 ·simp [madeCells,hi,Nat.mod_one]
 ·simp [madeCells,hi]
/-- the three boxes of MulW -/
structure MC (W : World) (p : Nat) (sg sh : Bool) (va vb : Value) : Prop where
 c0 : W.cell? ⟨p,0,none⟩ = some (.bool sg)
 c1 : W.cell? ⟨p,1,none⟩ = some va
 c2 : W.cell? ⟨p + 1,0,none⟩ = some (.bool sh)
 c3 : W.cell? ⟨p + 1,1,none⟩ = some vb
 c4 : W.cell? ⟨p + 1 + 1,0,none⟩ = some (.bool false)
 c5 : W.cell? ⟨p + 1 + 1,1,none⟩ = some (.slice none 0 0)
 c6 : W.frozen? ⟨p + 1 + 1,0,none⟩ = false
 c7 : W.frozen? ⟨p + 1 + 1,1,none⟩ = false
theorem MC.fr {W W' : World} {p : Nat} {sg sh : Bool} {va vb : Value} (h : MC W p sg sh va vb) (k : Fr W W') : MC W' p sg sh va vb :=
 ⟨k.keep h.c0,k.keep h.c1,k.keep h.c2,k.keep h.c3,k.keep h.c4,k.keep h.c5,k.keepf h.c4 h.c6,k.keepf h.c5 h.c7⟩

end Go.Proofs.YtkjemicelmabdaaGreatDoor

/- schismalaw42.words of any text, and schismalaw42.index. -/
namespace Go.Proofs.YtkjemicelmabdaaGreatDoor
open Go.RowKit Go.Lib
attribute [local go_sem ↓] Go.wp_at_zero Go.wp_at_succ

theorem joinW_app (l : List ByteArray) (h : l ≠ []) (x : ByteArray) : joinW (l ++ [x]) = joinW l ++ ⟨#[32]⟩ ++ x:=by
 cases l with
 | nil => exact absurd rfl h
 | cons w0 ws => exact joinW_snoc w0 ws x
theorem joinW_last (l : List ByteArray) (x y : ByteArray) : joinW (l ++ [x ++ y]) = joinW (l ++ [x]) ++ y:=by
 cases l with
 | nil => rw [List.nil_append,List.nil_append,joinW_one,joinW_one]
 | cons w0 ws =>
   rw [List.cons_append,List.cons_append,joinW_snoc,joinW_snoc,ByteArray.append_assoc,ByteArray.append_assoc,ByteArray.append_assoc]
/-- the words of the first bytes -/
structure WdI (s : ByteArray) (j n : Nat) (l : List ByteArray) : Prop where
 len : l.length = n + 1
 join : joinW l = s.extract 0 j
 ok : ∀ x,x ∈ l → (32 : UInt8) ∉ x.data.toList ∧ x.size ≤ j
 le : n ≤ j
theorem ext_snoc (s : ByteArray) (j : Nat) (_h : j < s.size) : s.extract 0 (j + 1) = s.extract 0 j ++ s.extract j (j + 1):=by
 apply ba_ext
 rw [ByteArray.data_append,Array.toList_append,ByteArray.data_extract,ByteArray.data_extract,ByteArray.data_extract,Array.toList_extract,Array.toList_extract,Array.toList_extract]
 simp only [List.extract_eq_take_drop,List.drop_zero,Nat.sub_zero]
 rw [show j + 1 - j = 1 by omega,List.take_add]
theorem ext_one (s : ByteArray) (j : Nat) (h : j < s.size) : s.extract j (j + 1) = ⟨#[s[j]'h]⟩:=by
 apply ba_ext
 rw [ByteArray.data_extract,Array.toList_extract,List.extract_eq_take_drop,show j + 1 - j = 1 by omega]
 have hl : j < s.data.toList.length:=by rw [← Lib.size_eq]; exact h
 have h2:=Lib.data_getElem? s j h
 rw [List.getElem?_eq_getElem hl] at h2
 injection h2 with h2
 rw [← List.getElem_cons_drop hl,h2]
 rfl
theorem WdI.zero (s : ByteArray) : WdI s 0 0 [⟨#[]⟩]:=by
 refine ⟨rfl, ?_,fun x hx => ?_,Nat.le_refl _⟩
 ·rw [joinW_one]; apply ba_ext; rw [ByteArray.data_extract,Array.toList_extract]; simp
 ·rw [List.mem_singleton] at hx; subst hx
  exact ⟨by simp,Nat.le_refl _⟩
theorem WdI.blank {s : ByteArray} {j n : Nat} {l : List ByteArray} (h : WdI s j n l) (hj : j < s.size) (hb : s[j]'hj = 32) : WdI s (j + 1) (n + 1) (l ++ [⟨#[]⟩]):=by
 refine ⟨by rw [List.length_append,h.len]; rfl, ?_,fun x hx => ?_,by have:=h.le; omega⟩
 ·rw [joinW_app l (fun e => by have:=h.len; rw [e] at this; cases this),h.join,ext_snoc s j hj,ext_one s j hj,hb]
  apply ba_ext
  rw [ByteArray.data_append,Array.toList_append]; simp
 ·rcases List.mem_append.1 hx with hx | hx
  ·exact ⟨(h.ok x hx).1,by have:=(h.ok x hx).2; omega⟩
  ·rw [List.mem_singleton] at hx; subst hx
   exact ⟨by simp,Nat.zero_le _⟩
theorem WdI.byte {s : ByteArray} {j n : Nat} {l : List ByteArray} (h : WdI s j n l) (hj : j < s.size) (hb : s[j]'hj ≠ 32) {x : ByteArray} (hx : l[n]? = some x) : WdI s (j + 1) n (l.set n (x ++ s.extract j (j + 1))):=by
 have hl:=h.len
 obtain ⟨m,y,hm⟩ : ∃ m y,l = m ++ [y]:=by
  have hne : l ≠ []:=fun e => by rw [e] at hl; cases hl
  exact ⟨_,_,(List.dropLast_concat_getLast hne).symm⟩
 subst hm
 have hml : m.length = n:=by rw [List.length_append] at hl; simpa using hl
 have hyx : y = x:=by
  rw [List.getElem?_append_right (by omega),hml,Nat.sub_self] at hx
  injection hx
 subst hyx
 have e : (m ++ [y]).set n (y ++ s.extract j (j + 1)) = m ++ [y ++ s.extract j (j + 1)]:=by
  rw [List.set_append_right _ _ (by omega),hml,Nat.sub_self]; rfl
 rw [e]
 refine ⟨by rw [List.length_append,hml]; rfl, ?_,fun z hz => ?_,by have:=h.le; omega⟩
 ·rw [joinW_last,h.join,ext_snoc s j hj]
 ·rcases List.mem_append.1 hz with hz | hz
  ·have:=h.ok z (List.mem_append_left _ hz)
   exact ⟨this.1,by omega⟩
  ·rw [List.mem_singleton] at hz; subst hz
   have:=h.ok y (by simp)
   rw [ext_one s j hj]
   refine ⟨?_, ?_⟩
   ·rw [ByteArray.data_append,Array.toList_append,List.mem_append]
    rintro (h9 | h9)
    ·exact this.1 h9
    ·have h9 : (32 : UInt8) ∈ [s[j]'hj]:=h9
     rw [List.mem_singleton] at h9
     exact hb h9.symm
   ·rw [ByteArray.size_append]
    have e9 : (⟨#[s[j]'hj]⟩ : ByteArray).size = 1:=rfl
    omega
def WdRet (s : ByteArray) (w : World) (e : Ending) (w' : World) : Prop :=
 ∃ (w0 : ByteArray) (ws : List ByteArray) (g c : Nat),e = .returned (.slice (some ⟨g,0,none⟩) (ws.length + 1 : Nat) c) ∧ (∀ (i : Nat) (x : ByteArray),(w0 :: ws)[i]? = some x → w'.cell? ⟨g,i,none⟩ = some (.string x)) ∧ joinW (w0 :: ws) = s ∧ (∀ x,x ∈ w0 :: ws → (32 : UInt8) ∉ x.data.toList ∧ x.size ≤ s.size) ∧ ws.length ≤ s.size ∧ Fr w w'
set_option maxRecDepth 100000 in
set_option maxHeartbeats 8000000 in
theorem words_any (s : ByteArray) (w : World) (hs : s.size ≤ 1000000) : Calls Tryz.prog 48 #[.string s] w (WdRet s w):=by
 obtain ⟨i1,ji,jz0,jz1,jz2⟩:=info_parts infoStr
 obtain ⟨B,hB⟩ : ∃ B,B = w.heap.size:=⟨_,rfl⟩
 obtain ⟨W1,hW1⟩ : ∃ W1,W1 = w.alloc (.cells #[.string ⟨#[]⟩] 9):=⟨_,rfl⟩
 have f1 : Fr w W1:=by rw [hW1]; exact (Fr.refl _).alloc _
 have ho1 : Hid (W1.ownsRow B 9 1 (.slice (some ⟨B,0,none⟩) ((0 + 1 : Nat) : Nat) 1) (0 + 1) (([⟨#[]⟩] : List ByteArray).map Value.string)):=by
  rw [hW1,hB]
  exact World.ownsRow_lit w #[.string ⟨#[]⟩] 1 (Nat.le_refl _) (by decide) rfl
 go_enter Tryz.func48,Tryz.ntmps48
 go_upto_region 2 with (fail)
 rw [← hW1,← hB]
 clear hW1
 replace hB:=Lib.hid hB
 go_wp2_with fail
 go_loopg [3,4] s.size (fun k s3 s4 wr => ∃ (j n g c : Nat) (l : List ByteArray),s4 = .int .i64 j ∧ s3 = .slice (some ⟨g,0,none⟩) (n + 1 : Nat) c ∧ j + k = s.size ∧ Fr w wr ∧ Hid (wr.ownsRow B 9 1 (.slice (some ⟨g,0,none⟩) (n + 1 : Nat) c) (n + 1) (l.map Value.string)) ∧ Hid (WdI s j n l))
 case atStart => exact ⟨0,0,B,1,[⟨#[]⟩],rfl,rfl,by omega,f1,ho1.out,WdI.zero s⟩
 case round =>
  obtain ⟨j,n,g,c,l,rfl,rfl,hjk,hf,hown,hwd⟩:=hrel
  obtain ⟨wv,rfl⟩ : ∃ wv : World,wv = wr:=⟨_,rfl⟩
  obtain ⟨kv,rfl⟩ : ∃ kv : Nat,kv = gk:=⟨_,rfl⟩
  by_cases hj : j < s.size
  ·have dj : decide (j < s.size) = true:=decide_eq_true hj
   have y0 : (0 : Int) ≤ (j : Int):=Int.natCast_nonneg _
   have y1 : (j : Int) < (s.size : Int):=by omega
   have hle:=hwd.out.le
   by_cases hb : s[j]'hj = 32
   ·have e0 : (((s[j]'hj).toNat : Int) == 32) = true:=by rw [hb]; rfl
    have hw2:=Lib.hid (hwd.out.blank hj hb)
    have hownG:=hown.out
    have hg9 : gN ≤ gN:=Nat.le_refl _
    replace hb:=Lib.hid hb
    go_wp2_with (at_builtin; refine wpList_append_lies _ rfl _ _ 66 (by rfl) _ 9 _ _ 1 16 Tryz.underlying66 ji jz0 jz1 jz2 rfl (by decide) _ (n + 1) _ (by rfl) (World.ownsRow.alloc hownG _) ⟨wv.heap.size,0,none⟩ 1 1 [.string ⟨#[]⟩] (by rfl) rfl (cell_one_newN _ _ _ _ (by simp)) (by simp [Value.oneCell']) (by decide) (by unfold maxLen; omega) (by omega) (by have:=hB.out; have:=hf.size; simp; omega) (wv.heap.size + 1) (by simp) ?_; intro gA capA wA hownA hgrowA hatA hltA)
    have hfA : Fr w wA:=(hf.alloc _).grown hgrowA (fun k e => by have:=(hown.out.lt k e).1; have:=hB.out; omega)
    replace hownA:=Lib.hid hownA
    go_wp2_with fail
    go_roundg (kv - 1)
    case measure => omega
    case rel => exact ⟨j + 1,n + 1,gA,capA,l ++ [⟨#[]⟩],by go_num,rfl,by omega,hfA,by show World.ownsRow _ _ _ _ _ _ _; rw [List.map_append]; exact hownA.out,hw2⟩
   ·have e0 : (((s[j]'hj).toNat : Int) == 32) = false:=beq_false_of_ne (fun e => hb (UInt8.toNat_inj.1 (by show _ = 32; omega)))
    obtain ⟨x,hx⟩ : ∃ x,l[n]? = some x:=⟨_,List.getElem?_eq_getElem (by rw [hwd.out.len]; omega)⟩
    have hxs:=(hwd.out.ok x (List.mem_of_getElem? hx)).2
    have hw2:=Lib.hid (hwd.out.byte hj hb hx)
    have c0 : wv.cell? ⟨g,n,none⟩ = some (.string x):=by
     rw [hown.out.cellAt n (by omega),List.getElem?_map,hx]; rfl
    have g0:=hown.out.frozenAt n
    have hst:=Lib.hid (hown.out.stored n (.string (x ++ s.extract j (j + 1))))
    have hgb:=Lib.hid (hown.out.lt g rfl).1
    have hw1 : IntKind.i64.wrap (((n + 1 : Nat) : Int) - 1) = (n : Int):=by rw [show ((n + 1 : Nat) : Int) - 1 = (n : Int) by omega]; exact IntWalk.i64_in _ (by omega)
    have hw4 : IntKind.i64.wrap (n : Int) = (n : Int):=IntWalk.i64_in _ (by omega)
    have hw3 : IntKind.i64.wrap ((j : Int) + 1) = (j : Int) + 1:=IntWalk.i64_in _ (by omega)
    have ht1 : ((j : Int) + 1).toNat = j + 1:=by omega
    have z1 : (0 : Int) ≤ (n : Int):=Int.natCast_nonneg _
    have z2 : (n : Int) < ((n + 1 : Nat) : Int):=by omega
    have z6 : (n : Int) < (n : Int) + 1:=by omega
    have z3 : (j : Int) + 1 ≤ (s.size : Int):=by omega
    have z4 : (0 : Int) ≤ (j : Int) + 1:=by omega
    have z5 : (j : Int) ≤ (j : Int) + 1:=by omega
    have v1 : ¬ (9223372036854775807 < x.size + (s.extract j (j + 1)).size):=by rw [ByteArray.size_extract]; omega
    have v2 : ¬ (9223372036854775807 < x.size + (min (j + 1) s.size - j)):=by omega
    have hS0:=Lib.hid (fun W (hW : Fr wv W) => (hW.keep c0 : W.cell? ⟨g,n,none⟩ = some (.string x)))
    have hd0 : Fr wv wv.drew:=(Fr.refl wv).drew
    have c9:=hd0.keep c0
    have g9:=hd0.keepf c0 g0
    replace hb:=Lib.hid hb
    replace hx:=Lib.hid hx
    go_wp2_with fail
    refine wp_region_U (S:=fun W => W.cell? ⟨g,n,none⟩ = some (.string x)) 17 (by kernel_rfl) (hS0.out _ hd0) (fun hHeld => ?_)
    refine uT (v:=?_) 0 rfl (by kernel_rfl) (.inl ⟨by rfl, ?_⟩) (by assumption) ?_
    rotate_left
    ·(intro w hSw; (try dsimp only at hSw); go_simp; try (with_reducible rfl))
    change wpAnyU _ _ _ _ _ _ _ _ (Act.put _ (some 19) _) _
    simp only [Act.put,lsT,ls0,lsS]
    refine uT (v:=?_) 1 rfl (by kernel_rfl) (.inl ⟨by rfl, ?_⟩) (by assumption) ?_
    rotate_left
    ·(intro w hSw; (try dsimp only at hSw); go_simp; try (with_reducible rfl))
    change wpAnyU _ _ _ _ _ _ _ _ (Act.put _ (some 20) _) _
    simp only [Act.put,lsT,ls0,lsS]
    refine uT (v:=?_) 2 rfl (by kernel_rfl) (.inl ⟨by rfl, ?_⟩) (by assumption) ?_
    rotate_left
    ·(intro w hSw; (try dsimp only at hSw); go_simp; try (with_reducible rfl))
    change wpAnyU _ _ _ _ _ _ _ _ (Act.put _ (some 21) _) _
    simp only [Act.put,lsT,ls0,lsS]
    refine uT (v:=?_) 3 rfl (by kernel_rfl) (.inl ⟨by rfl, ?_⟩) (by assumption) ?_
    rotate_left
    ·(intro w hSw; (try dsimp only at hSw); go_simp; try (with_reducible rfl))
    change wpAnyU _ _ _ _ _ _ _ _ (Act.put _ (some 22) _) _
    simp only [Act.put,lsT,ls0,lsS]
    refine uT (v:=?_) 4 rfl (by kernel_rfl) (.inl ⟨by rfl, ?_⟩) (by assumption) ?_
    rotate_left
    ·(intro w hSw; (try dsimp only at hSw); go_simp; try (with_reducible rfl))
    change wpAnyU _ _ _ _ _ _ _ _ (Act.put _ (some 23) _) _
    simp only [Act.put,lsT,ls0,lsS]
    refine uT (v:=?_) 5 rfl (by kernel_rfl) (.inl ⟨by rfl, ?_⟩) (by assumption) ?_
    rotate_left
    ·(intro w hSw; (try dsimp only at hSw); go_simp; try (with_reducible rfl))
    change wpAnyU _ _ _ _ _ _ _ _ (Act.put _ (some 24) _) _
    simp only [Act.put,lsT,ls0,lsS]
    refine uT (v:=?_) 6 rfl (by kernel_rfl) (.inl ⟨by rfl, ?_⟩) (by assumption) ?_
    rotate_left
    ·(intro w hSw; (try dsimp only at hSw); go_simp; try (with_reducible rfl))
    change wpAnyU _ _ _ _ _ _ _ _ (Act.put _ (some 25) _) _
    simp only [Act.put,lsT,ls0,lsS]
    refine uT (v:=?_) 7 rfl (by kernel_rfl) (.inl ⟨by rfl, ?_⟩) (by assumption) ?_
    rotate_left
    ·(intro w hSw; (try dsimp only at hSw); go_simp; try (with_reducible rfl))
    change wpAnyU _ _ _ _ _ _ _ _ (Act.put _ (some 26) _) _
    simp only [Act.put,lsT,ls0,lsS]
    refine uT (v:=?_) 8 rfl (by kernel_rfl) (.inl ⟨by rfl, ?_⟩) (by assumption) ?_
    rotate_left
    ·(intro w hSw; (try dsimp only at hSw); go_simp; try (with_reducible rfl))
    change wpAnyU _ _ _ _ _ _ _ _ (Act.put _ (some 27) _) _
    simp only [Act.put,lsT,ls0,lsS]
    refine uT (v:=?_) 9 rfl (by kernel_rfl) (.inl ⟨by rfl, ?_⟩) (by assumption) ?_
    rotate_left
    ·(intro w hSw; (try dsimp only at hSw); go_simp; try (with_reducible rfl))
    change wpAnyU _ _ _ _ _ _ _ _ (Act.put _ (some 28) _) _
    simp only [Act.put,lsT,ls0,lsS]
    refine uT (v:=?_) 10 rfl (by kernel_rfl) (.inl ⟨by rfl, ?_⟩) (by assumption) ?_
    rotate_left
    ·(intro w hSw; (try dsimp only at hSw); go_simp; try (with_reducible rfl))
    change wpAnyU _ _ _ _ _ _ _ _ (Act.put _ (some 29) _) _
    simp only [Act.put,lsT,ls0,lsS]
    refine uT (v:=?_) 11 rfl (by kernel_rfl) (.inl ⟨by rfl, ?_⟩) (by assumption) ?_
    rotate_left
    ·(intro w hSw; (try dsimp only at hSw); go_simp; try (with_reducible rfl))
    change wpAnyU _ _ _ _ _ _ _ _ (Act.put _ (some 30) _) _
    simp only [Act.put,lsT,ls0,lsS]
    refine uT (v:=?_) 12 rfl (by kernel_rfl) (.inl ⟨by rfl, ?_⟩) (by assumption) ?_
    rotate_left
    ·(intro w hSw; (try dsimp only at hSw); go_simp; try (with_reducible rfl))
    change wpAnyU _ _ _ _ _ _ _ _ (Act.put _ (some 31) _) _
    simp only [Act.put,lsT,ls0,lsS]
    refine uT (v:=?_) 13 rfl (by kernel_rfl) (.inl ⟨by rfl, ?_⟩) (by assumption) ?_
    rotate_left
    ·(intro w hSw; (try dsimp only at hSw); go_simp; try (with_reducible rfl))
    change wpAnyU _ _ _ _ _ _ _ _ (Act.put _ (some 32) _) _
    simp only [Act.put,lsT,ls0,lsS]
    refine uT (v:=?_) 14 rfl (by kernel_rfl) (.inl ⟨by rfl, ?_⟩) (by assumption) ?_
    rotate_left
    ·(intro w hSw; (try dsimp only at hSw); go_simp; try (with_reducible rfl))
    change wpAnyU _ _ _ _ _ _ _ _ (Act.put _ (some 33) _) _
    simp only [Act.put,lsT,ls0,lsS]
    refine uT (v:=?_) 15 rfl (by kernel_rfl) (.inl ⟨by rfl, ?_⟩) (by assumption) ?_
    rotate_left
    ·(intro w hSw; (try dsimp only at hSw); go_simp; try (with_reducible rfl))
    change wpAnyU _ _ _ _ _ _ _ _ (Act.put _ (some 34) _) _
    simp only [Act.put,lsT,ls0,lsS]
    refine uT (v:=?_) 16 rfl (by kernel_rfl) (.inl ⟨by rfl, ?_⟩) (by assumption) ?_
    rotate_left
    ·(intro w hSw; (try dsimp only at hSw); go_simp; try (with_reducible rfl))
    change wpAnyU _ _ _ _ _ _ _ _ (Act.put _ (some 35) _) _
    simp only [Act.put,lsT,ls0,lsS]
    clear hHeld
    refine wpAnyU_ready (rs:=[17]) (by kernel_rfl) (by simp) ?_
    refine AllReadyU.last rfl (by kernel_rfl) (by kernel_rfl) (fun K hK => ?_)
    go_simp
    refine hK.out _ _ ?_
    clear hK K
    have hfz : Hid (Fr w (wv.drew.setCell ⟨g,n,none⟩ (.string (x ++ s.extract j (j + 1))))):=(Fx.setCell (p:=fun k => k = g) (q:=⟨g,n,none⟩) (Fx.of_fr (hf.trans hd0)) (.inl rfl) _).toFr (fun k hk e => by have e : k = g:=e; have:=hgb.out; have:=hB.out; omega)
    go_wp2_with fail
    go_roundg (kv - 1)
    case measure => omega
    case rel => exact ⟨j + 1,n,g,c,l.set n (x ++ s.extract j (j + 1)),by go_num,rfl,by omega,hfz.out,by show World.ownsRow _ _ _ _ _ _ _; rw [List.map_set]; exact hst.out.1.drew,hw2⟩
  ·have dj : decide (j < s.size) = false:=decide_eq_false hj
   obtain rfl : s.size = j:=by omega
   go_wp2_with fail
   go_ret
   obtain ⟨hl,hjn,hok,hle⟩:=hwd.out
   cases l with
   | nil => cases hl
   | cons w0 ws =>
     obtain rfl : ws.length = n:=by simpa using hl
     refine ⟨w0,ws,g,c,rfl,fun i x hx => ?_, ?_,hok,hle,hf⟩
     ·rw [hown.out.cellAt i (by have:=(List.getElem?_eq_some_iff.1 hx).1; rw [List.length_cons] at this; omega),List.getElem?_map,hx]; rfl
     ·rw [hjn]; apply ba_ext; rw [ByteArray.data_extract,Array.toList_extract]; simp only [List.extract_eq_take_drop,List.drop_zero,Nat.sub_zero]; exact List.take_of_length_le (by rw [← Lib.size_eq]; exact Nat.le_refl _)
set_option maxRecDepth 100000 in
set_option maxHeartbeats 2000000 in
theorem lindex_any (L : List Sy) (a : Option Addr) (c n : Nat) (s : ByteArray) (w : World) (hL : Syms w a L) (hn : L.length = n) (hl : n ≤ 1000000000) :
 Calls Tryz.prog 51 #[.slice a n c,.string s] w fun e w' => e = .returned (.int .i64 (symI L s)) ∧ Fr w w':=by
 go_enter Tryz.func51,Tryz.ntmps51
 go_wp2_with fail
 go_loopg [5] n (fun k s5 wr => ∃ i : Nat,s5 = .int .i64 i ∧ i + k = n ∧ wr = w ∧ Hid (∀ j x,j < i → L[j]? = some x → (fun y : Sy => y.nm.toList == s.toList) x = false))
 case atStart => exact ⟨0,rfl,by omega,rfl,fun j x h => by omega⟩
 case round =>
  obtain ⟨i,rfl,hik,rfl,hno⟩:=hrel
  by_cases hi : i < n
  ·have hdI : decide (i < n) = true:=decide_eq_true hi
   obtain ⟨ab,ao,y0,rfl,hbl,hy0,hc1,hc2,-⟩:=hL.at (i:=i) (by omega)
   have z0 : (0 : Int) ≤ (i : Int):=Int.natCast_nonneg _
   have z1 : (i : Int) < (n : Int):=by omega
   clear hc2
   cases hq : (y0.nm.toList == s.toList) with
   | true =>
     have hix : Hid (symI L s = i):=idx_found (p:=fun y : Sy => y.nm.toList == s.toList) hno.out hy0 hq
     replace hy0:=Lib.hid hy0
     go_wp2_with fail
     go_ret
     exact ⟨ret_int hix.out.symm,Fr.refl _⟩
   | false =>
     have hno2:=idx_step (p:=fun y : Sy => y.nm.toList == s.toList) hno.out hy0 hq
     replace hy0:=Lib.hid hy0
     go_wp2_with fail
     go_roundg (gk - 1)
     case measure => omega
     case rel => exact ⟨i + 1,by go_num,by omega,rfl,hno2⟩
  ·have hdI : decide (i < n) = false:=decide_eq_false hi
   have hix : Hid (symI L s = -1):=idx_none (p:=fun y : Sy => y.nm.toList == s.toList) (fun j x h hx => hno.out j x (by omega) hx)
   go_wp2_with fail
   go_ret
   exact ⟨ret_int hix.out.symm,Fr.refl _⟩
end Go.Proofs.YtkjemicelmabdaaGreatDoor

/- schismalaw42.parse of any text at a right notation. -/
namespace Go.Proofs.YtkjemicelmabdaaGreatDoor
open Go.RowKit Go.Lib
attribute [local go_sem ↓] Go.wp_at_zero Go.wp_at_succ

theorem words_uniq {w0 v0 : ByteArray} {ws vs : List ByteArray} (hw : ∀ x,x ∈ w0 :: ws → (32 : UInt8) ∉ x.data.toList) (hv : ∀ x,x ∈ v0 :: vs → (32 : UInt8) ∉ x.data.toList) (h : joinW (v0 :: vs) = joinW (w0 :: ws)) : v0 = w0 ∧ vs = ws:=by
 have h1:=(split_joinW w0 ws hw).2
 have h2:=(split_joinW v0 vs hv).2
 rw [h,h1] at h2
 injection h2 with h3 h4
 exact ⟨h3.symm,h4.symm⟩
theorem own_ne {W : World} {b1 b2 : Nat} {e1 e2 : TypeId} {s1 s2 : Nat} {v1 v2 : Value} {n1 n2 : Nat} {x1 x2 : List Value} (h1 : W.ownsRow b1 e1 s1 v1 n1 x1) (h2 : W.ownsRow b2 e2 s2 v2 n2 x2) (he : e1 ≠ e2) : v1.ownBlock = none ∨ v1.ownBlock ≠ v2.ownBlock:=by
 rcases h1.2 with ⟨rfl,_⟩ | ⟨g,cap,cur,rfl,_,hg,_⟩
 ·exact .inl rfl
 ·rcases h2.2 with ⟨rfl,_⟩ | ⟨g',cap',cur',rfl,_,hg',_⟩
  ·exact .inr (by simp [Value.ownBlock])
  ·refine .inr fun e => ?_
   have e : g = g':=by simpa [Value.ownBlock] using e
   subst e
   rw [hg] at hg'
   injection hg' with hg'
   injection hg' with _ h9 _
   exact he h9
theorem pval_fit {p : Pc} (h1 : 1 ≤ p.k) : (p.k ≤ 1000000000 → fitB p.val = true ∧ Sm p.val) ∧ (¬ p.k ≤ 1000000000 → fitB p.val = false):=by
 unfold Pc.val
 refine ⟨fun h => ?_,fun h => ?_⟩
 ·split
  ·exact ⟨decide_eq_true (by omega),by unfold Sm; omega⟩
  ·exact ⟨decide_eq_true (by omega),by unfold Sm; omega⟩
 ·split
  ·exact decide_eq_false (by omega)
  ·exact decide_eq_false (by omega)
theorem pval_size {p : Pc} (h : (tx p.k).size ≤ 65536) (h1 : 1 ≤ p.k) : (tx p.val).size ≤ 65537:=by
 unfold Pc.val
 split
 ·have h2:=tx_size (-p.k)
  have h3:=tx_size p.k
  rw [itoa_ng (by omega)] at h2
  rw [itoa_nn (by omega),show p.k.toNat = p.k.natAbs by omega] at h3
  rw [h2,List.length_cons,show (-p.k).natAbs = p.k.natAbs by omega]
  omega
 ·omega
theorem own_list {W : World} {base : Nat} {e : TypeId} {v : Value} {n : Nat} {xs : List Value} (h : W.ownsRow base e 1 v n xs) (hl : xs.length = n) : ∃ a c,v = .slice a n c ∧ ∀ (j : Nat) (x : Value),xs[j]? = some x → ∃ g,a = some ⟨g,0,none⟩ ∧ base ≤ g ∧ W.cell? ⟨g,j,none⟩ = some x:=by
 rcases h.2 with ⟨rfl,rfl⟩ | ⟨g,cap,cur,rfl,hb,hg,_⟩
 ·exact ⟨none,0,rfl,fun j x hx => by rw [List.eq_nil_of_length_eq_zero hl] at hx; simp at hx⟩
 ·refine ⟨_,_,rfl,fun j x hx => ⟨g,rfl,hb, ?_⟩⟩
  rw [h.cellAt j (by have:=(List.getElem?_eq_some_iff.1 hx).1; omega),hx]
set_option maxRecDepth 100000 in
set_option maxHeartbeats 16000000 in
theorem lparse_gen (N A : List Sy) (d M : Nat) (s w0 : ByteArray) (ws : List ByteArray) (aN aA : Option Addr) (cN cA : Nat) (w : World) (hG : G w) (hn : NotIs w aN aA cA N A) (lenA : A.length = d) (hM : N.length = M) (d6 : d ≤ 6) (n60 : M ≤ 60)
 (hsz : s.size ≤ 65536) (hj : joinW (w0 :: ws) = s) (hnb0 : ∀ x,x ∈ w0 :: ws → (32 : UInt8) ∉ x.data.toList) :
 Calls Tryz.prog 16 #[.agg #[.slice aN M cN,.slice aA d cA],.string s] w (PsgRet w N A w0 ws d):=by
 have hgn:=gN_le hG
 obtain ⟨i3,ki,kz0,kz1,kz2⟩:=info_parts info65
 obtain ⟨i4,li,lz0,lz1,lz2⟩:=info_parts infoInt
 have hwo:=Lib.hid (fun W : World => words_any s W (by omega))
 have hfn : Hid (∀ W,Fr w W → Calls Tryz.prog 51 #[.slice aN M cN,.string w0] W fun e w' => e = .returned (.int .i64 (symI N w0)) ∧ Fr W w'):=fun W hW => lindex_any N aN cN M w0 W (hn.noms.fr hW) hM (by omega)
 have hfa : Hid (∀ (nm : ByteArray) W,Fr w W → Calls Tryz.prog 51 #[.slice aA d cA,.string nm] W fun e w' => e = .returned (.int .i64 (symI A nm)) ∧ Fr W w'):=fun nm W hW => lindex_any A aA cA d nm W (hn.accs.fr hW) lenA (by omega)
 have hta : Hid (∀ nm : ByteArray,-1 ≤ symI A nm ∧ symI A nm < d):=fun nm => by
  have:=idx_range (fun y : Sy => y.nm.toList == nm.toList) A
  rw [lenA] at this
  exact this
 obtain ⟨i0,hi0⟩ : ∃ i0,i0 = symI N w0:=⟨_,rfl⟩
 rw [← hi0] at hfn
 replace hi0:=Lib.hid hi0
 replace hj:=Lib.hid hj
 replace hnb0:=Lib.hid hnb0
 clear hG hn lenA hM
 obtain ⟨nb,hnb⟩ : ∃ nb,nb = w.heap.size:=⟨_,rfl⟩
 obtain ⟨W1,hW1⟩ : ∃ W1,W1 = (w.alloc (.cells #[.slice aN M cN,.slice aA d cA] 32)).alloc (.cells #[.int .i64 0,.slice none 0 0] 37):=⟨_,rfl⟩
 have f1 : Fr w W1:=by rw [hW1]; exact ((Fr.refl _).alloc _).alloc _
 have hN1 : Cel2 W1 nb (.slice aN M cN) (.slice aA d cA):=by rw [hW1,hnb]; exact (Cel2.new w _ _ _).fr ((Fr.refl _).alloc _)
 have hS1 : Cel2 W1 (nb + 1) (.int .i64 0) (.slice none 0 0):=by
  have:=Cel2.new (w.alloc (.cells #[.slice aN M cN,.slice aA d cA] 32)) (.int .i64 0) (.slice none 0 0) 37
  rw [World.size_alloc] at this
  rw [hW1,hnb]; exact this
 go_enter Tryz.func16,Tryz.ntmps16
 go_upto_region 1 with (fail)
 rw [← hW1,← hnb]
 clear hW1
 replace hnb:=Lib.hid hnb
 replace hN1:=Lib.hid hN1
 replace hS1:=Lib.hid hS1
 go_wp2_with fail
 refine (hwo.out _).mono ?_
 rintro e w2 ⟨v0,vs,wb,wc,rfl,hcw,hj2,hb2,hl2,hf2⟩
 obtain ⟨e1,e2⟩:=words_uniq hnb0.out (fun x hx => (hb2 x hx).1) (hj2.trans hj.out.symm)
 subst e1
 subst e2
 have hwsz : Hid (∀ x,x ∈ v0 :: vs → x.size ≤ 65536):=fun x hx => by have:=(hb2 x hx).2; omega
 obtain ⟨m,hm⟩ : ∃ m,m = vs.length:=⟨_,rfl⟩
 rw [← hm] at hl2 ⊢
 have hwl : m ≤ 65536:=by omega
 have f2:=f1.trans hf2
 have k0:=hcw 0 v0 rfl
 have h0s:=hwsz.out v0 List.mem_cons_self
 have hnam:=Lib.hid (fun W : World => name42_any v0 W (by omega))
 replace hcw:=Lib.hid hcw
 replace hj2:=Lib.hid hj2
 replace hb2:=Lib.hid hb2
 replace hm:=Lib.hid hm
 clear hwo hl2 hnb0
 have zm : (0 : Int) < ((m + 1 : Nat) : Int):=by omega
 have zm2 : 0 < m + 1:=by omega
 cases hbn : isName v0 with
 | false =>
   rw [hbn] at hnam
   go_wp2_with fail
   refine (hnam.out _).mono ?_
   rintro e w3 ⟨rfl,rfl⟩
   clear k0
   have hS9 : Cel2 w2 (nb + 1) (.int .i64 0) (.slice none 0 0):=hS1.out.fr hf2
   have hS10:=Lib.hid ((hS9.set0 (.int .i64 0)).set1 (.slice none 0 0))
   have hfx10 : Hid (Fx (· = nb + 1) w2 (((w2).setCell ⟨nb + 1,0,none⟩ (.int .i64 0)).setCell ⟨nb + 1,1,none⟩ (.slice none 0 0))):=Fx.setCell (p:=(· = nb + 1)) (q:=⟨nb + 1,1,none⟩) (Fx.setCell (p:=(· = nb + 1)) (q:=⟨nb + 1,0,none⟩) (Fx.refl _ w2) (.inl rfl) _) (.inl rfl) _
   have hfw10 : Hid (Fr w (((w2).setCell ⟨nb + 1,0,none⟩ (.int .i64 0)).setCell ⟨nb + 1,1,none⟩ (.slice none 0 0))):=((Fx.of_fr (f2)).trans hfx10.out).toFr (fun k hk e => by have e : k = nb + 1:=e; have:=hnb.out; omega)
   have hEE:=Lib.hid (show prsE N A v0 vs = 15 from (prsE_name hbn))
   have x1:=(hS9.set0 (.int .i64 0)).b
   have x2:=(hS9.set0 (.int .i64 0)).fb
   obtain ⟨b0,b1,e0,e1⟩:=hS9
   go_wp2_with fail
   have q0:=hS10.out.a
   have q1:=hS10.out.b
   refine bodyPost_ret (v:=.tuple #[.agg #[.int .i64 0,.slice none 0 0],.int .i64 15]) (by simp [results,Tryz.results16,go_sem,q0,q1]) rfl ?_
   exact PsgRet.err hEE.out (by decide) hfw10.out
 | true =>
 rw [hbn] at hnam
 have hPE:=Lib.hid (fun (pcs : List Pc) (h : CutAll vs pcs) => prsE_of (N:=N) (A:=A) hbn h)
 replace hbn:=Lib.hid hbn
 go_wp2_with fail
 refine (hnam.out _).mono ?_
 rintro e w3 ⟨rfl,rfl⟩
 go_wp2_with fail
 go_loopg [7] m (fun k s7 wr => ∃ (i : Nat) (ps : List Pc),s7 = .int .i64 ((i + 1 : Nat) : Int) ∧ i + k = m ∧ wr = w2 ∧ Hid (ps.length = i) ∧ Hid (∀ (j : Nat) (x : ByteArray) (p : Pc),vs[j]? = some x → ps[j]? = some p → cutO x = some p))
 case atStart => exact ⟨0,[],rfl,by omega,rfl,rfl,fun j x p _ h => by simp at h⟩
 case round =>
  clear k0
  obtain ⟨i,ps,rfl,hik,rfl,hpl,hpc0⟩:=hrel
  obtain ⟨ko,rfl⟩ : ∃ ko : Nat,ko = gk:=⟨_,rfl⟩
  by_cases hi : i < m
  ·have hdI : decide (i + 1 < m + 1) = true:=decide_eq_true (by omega)
   have hdI2 : decide (((i + 1 : Nat) : Int) < ((m + 1 : Nat) : Int)) = true:=decide_eq_true (by omega)
   obtain ⟨x,hx⟩ : ∃ x,vs[i]? = some x:=⟨_,List.getElem?_eq_getElem (by rw [← hm.out]; exact hi)⟩
   have hc1:=hcw.out (i + 1) x (by simpa using hx)
   have hxs:=hwsz.out x (List.mem_cons_of_mem _ (List.mem_of_getElem? hx))
   have hcu:=Lib.hid (fun W : World => LawCut_any x W (by omega))
   have z0 : (0 : Int) ≤ ((i + 1 : Nat) : Int):=Int.natCast_nonneg _
   have z1 : ((i + 1 : Nat) : Int) < ((m + 1 : Nat) : Int):=by omega
   replace hx:=Lib.hid hx
   go_wp2_with fail
   refine (hcu.out _).mono ?_
   rintro e wA ⟨⟨p,hpp,rfl⟩ | ⟨hno,rfl⟩,rfl⟩
   rotate_left
   ·replace hno:=Lib.hid hno
    clear hc1
    have hS9 : Cel2 wr (nb + 1) (.int .i64 0) (.slice none 0 0):=hS1.out.fr hf2
    have hS10:=Lib.hid ((hS9.set0 (.int .i64 0)).set1 (.slice none 0 0))
    have hfx10 : Hid (Fx (· = nb + 1) wr (((wr).setCell ⟨nb + 1,0,none⟩ (.int .i64 0)).setCell ⟨nb + 1,1,none⟩ (.slice none 0 0))):=Fx.setCell (p:=(· = nb + 1)) (q:=⟨nb + 1,1,none⟩) (Fx.setCell (p:=(· = nb + 1)) (q:=⟨nb + 1,0,none⟩) (Fx.refl _ wr) (.inl rfl) _) (.inl rfl) _
    have hfw10 : Hid (Fr w (((wr).setCell ⟨nb + 1,0,none⟩ (.int .i64 0)).setCell ⟨nb + 1,1,none⟩ (.slice none 0 0))):=((Fx.of_fr (f2)).trans hfx10.out).toFr (fun k hk e => by have e : k = nb + 1:=e; have:=hnb.out; omega)
    have hEE:=Lib.hid (show prsE N A v0 vs = 15 from (prsE_cut hx.out hno.out))
    have x1:=(hS9.set0 (.int .i64 0)).b
    have x2:=(hS9.set0 (.int .i64 0)).fb
    obtain ⟨b0,b1,e0,e1⟩:=hS9
    go_wp2_with fail
    have q0:=hS10.out.a
    have q1:=hS10.out.b
    refine bodyPost_ret (v:=.tuple #[.agg #[.int .i64 0,.slice none 0 0],.int .i64 15]) (by simp [results,Tryz.results16,go_sem,q0,q1]) rfl ?_
    exact PsgRet.err hEE.out (by decide) hfw10.out
   have hsn:=Lib.hid (CutAll.snoc hpl.out hpc0.out hx.out hpp)
   replace hpp:=Lib.hid hpp
   go_wp2_with fail
   go_roundg (ko - 1)
   case measure => omega
   case rel => exact ⟨i + 1,ps ++ [p],by go_num,by omega,rfl,hsn.out.1,hsn.out.2⟩
  ·have hdI : decide (i + 1 < m + 1) = false:=decide_eq_false (by omega)
   have hdI2 : decide (((i + 1 : Nat) : Int) < ((m + 1 : Nat) : Int)) = false:=decide_eq_false (by omega)
   obtain rfl : m = i:=by omega
   obtain ⟨pcs,rfl⟩ : ∃ pcs,pcs = ps:=⟨_,rfl⟩
   have hall : CutAll vs pcs:=⟨by rw [hpl.out]; exact hm.out,hpc0.out⟩
   have hPE9:=hPE.out pcs hall
   have hpq:=Lib.hid (pcsO_all hall).1
   have hki : Hid (∀ (i : Nat) (p : Pc),pcs[i]? = some p → 1 ≤ p.k ∧ (tx p.k).size ≤ 65536):=fun i p hp => by
    obtain ⟨x,hx⟩ : ∃ x,vs[i]? = some x:=⟨_,List.getElem?_eq_getElem (by have:=(List.getElem?_eq_some_iff.1 hp).1; have:=hall.1; omega)⟩
    obtain ⟨h1,h2,-⟩:=cutO_inv (hall.2 i x p hx hp)
    have:=hwsz.out x (List.mem_cons_of_mem _ (List.mem_of_getElem? hx))
    exact ⟨h1,by omega⟩
   obtain ⟨ats,hats⟩ : ∃ ats,ats = pcs.map fun p => symI A p.nm:=⟨_,rfl⟩
   have hal : Hid (ats.length = m):=by show _ = _; rw [hats,List.length_map,hpl.out]
   have hati : Hid (∀ (i : Nat) (p : Pc),pcs[i]? = some p → ats[i]? = some (symI A p.nm)):=fun i p hp => by rw [hats,List.getElem?_map,hp]; rfl
   have hatr : Hid (∀ (i : Nat) (t : Int),ats[i]? = some t → -1 ≤ t ∧ t < d):=fun i t ht => by
    obtain ⟨p,hp⟩ : ∃ p,pcs[i]? = some p:=⟨_,List.getElem?_eq_getElem (by have:=(List.getElem?_eq_some_iff.1 ht).1; have:=hal.out; have:=hpl.out; omega)⟩
    have:=hati.out i p hp
    rw [ht] at this
    injection this with this
    rw [this]; exact hta.out p.nm
   rw [← hi0.out,← hats] at hPE9
   have hatq : Hid (atsN A vs = ats.map Int.toNat):=by show _ = _; unfold atsN atsO; rw [hpq.out,← hats]
   replace hats:=Lib.hid hats
   replace hPE9:=Lib.hid hPE9
   replace hall:=Lib.hid hall
   clear hPE hpc0
   obtain ⟨wo,rfl⟩ : ∃ wo : World,wo = wr:=⟨_,rfl⟩
   have hFr : Fr w wo:=f2
   have n0:=hf2.keep hN1.out.a
   have n1:=hf2.keep hN1.out.b
   have k0:=hcw.out 0 v0 rfl
   have hfo : Hid (∀ W,Fr wo W → Calls Tryz.prog 51 #[.slice aN M cN,.string v0] W fun e w' => e = .returned (.int .i64 i0) ∧ Fr W w'):=fun W hW => hfn.out W (hFr.trans hW)
   have hS0:=Lib.hid (fun W' (hW' : Fr wo W') => (⟨hW'.keep n0,hW'.keep n1,hW'.keep k0⟩ : W'.cell? ⟨nb,0,none⟩ = some (.slice aN M cN) ∧ W'.cell? ⟨nb,1,none⟩ = some (.slice aA d cA) ∧ W'.cell? ⟨wb,0,none⟩ = some (.string v0)))
   go_upto_region 10 with (fail)
   go_cut [11] from 49 to 142 (fun s11 wc => ∃ (gO ob : Nat),s11 = .pointer (some ⟨ob,0,none⟩) ∧ Fr wo wc ∧ Cel2 wc ob (.int .i64 i0) (.slice (some ⟨gO,0,none⟩) d d) ∧ OwnI wc gO 0 (List.replicate d 0) ∧ wo.heap.size ≤ gO ∧ wo.heap.size ≤ ob ∧ gO ≠ ob)
   case first =>
    have hgw : gN ≤ wo.heap.size:=by have:=hFr.size; omega
    clear hPE9 hpq hki hal hati hatr hatq hats hall hfn hfa hta hi0 hpl hm hwsz hcw hnam hj2 hb2 hbn
    have hd0 : Fr wo wo.drew:=(Fr.refl wo).drew
    refine wp_region_U (S:=fun W' => W'.cell? ⟨nb,0,none⟩ = some (.slice aN M cN) ∧ W'.cell? ⟨nb,1,none⟩ = some (.slice aA d cA) ∧ W'.cell? ⟨wb,0,none⟩ = some (.string v0)) 12 (by kernel_rfl) (hS0.out _ hd0) (fun hHeld => ?_)
    refine uT (v:=?_) 0 rfl (by kernel_rfl) (.inl ⟨by rfl, ?_⟩) (by assumption) ?_
    rotate_left
    ·(intro w hSw; (try dsimp only at hSw); go_simp; try (with_reducible rfl))
    change wpAnyU _ _ _ _ _ _ _ _ (Act.put _ (some 49) _) _
    simp only [Act.put,lsT,ls0,lsS]
    refine uT (v:=?_) 1 rfl (by kernel_rfl) (.inl ⟨by rfl, ?_⟩) (by assumption) ?_
    rotate_left
    ·(intro w hSw; (try dsimp only at hSw); go_simp; try (with_reducible rfl))
    change wpAnyU _ _ _ _ _ _ _ _ (Act.put _ (some 50) _) _
    simp only [Act.put,lsT,ls0,lsS]
    refine uT (v:=?_) 2 rfl (by kernel_rfl) (.inl ⟨by rfl, ?_⟩) (by assumption) ?_
    rotate_left
    ·(intro w hSw; (try dsimp only at hSw); go_simp; try (with_reducible rfl))
    change wpAnyU _ _ _ _ _ _ _ _ (Act.put _ (some 51) _) _
    simp only [Act.put,lsT,ls0,lsS]
    refine uT (v:=?_) 3 rfl (by kernel_rfl) (.inl ⟨by rfl, ?_⟩) (by assumption) ?_
    rotate_left
    ·(intro w hSw; (try dsimp only at hSw); go_simp; try (with_reducible rfl))
    change wpAnyU _ _ _ _ _ _ _ _ (Act.put _ (some 52) _) _
    simp only [Act.put,lsT,ls0,lsS]
    refine uT (v:=?_) 4 rfl (by kernel_rfl) (.inl ⟨by rfl, ?_⟩) (by assumption) ?_
    rotate_left
    ·(intro w hSw; (try dsimp only at hSw); go_simp; try (with_reducible rfl))
    change wpAnyU _ _ _ _ _ _ _ _ (Act.put _ (some 53) _) _
    simp only [Act.put,lsT,ls0,lsS]
    refine uT (v:=?_) 6 rfl (by kernel_rfl) (.inl ⟨by rfl, ?_⟩) (by assumption) ?_
    rotate_left
    ·(intro w hSw; (try dsimp only at hSw); go_simp; try (with_reducible rfl))
    change wpAnyU _ _ _ _ _ _ _ _ (Act.put _ (some 55) _) _
    simp only [Act.put,lsT,ls0,lsS]
    refine uT (v:=?_) 7 rfl (by kernel_rfl) (.inl ⟨by rfl, ?_⟩) (by assumption) ?_
    rotate_left
    ·(intro w hSw; (try dsimp only at hSw); go_simp; try (with_reducible rfl))
    change wpAnyU _ _ _ _ _ _ _ _ (Act.put _ (some 56) _) _
    simp only [Act.put,lsT,ls0,lsS]
    refine uT (v:=?_) 8 rfl (by kernel_rfl) (.inl ⟨by rfl, ?_⟩) (by assumption) ?_
    rotate_left
    ·(intro w hSw; (try dsimp only at hSw); go_simp; try (with_reducible rfl))
    change wpAnyU _ _ _ _ _ _ _ _ (Act.put _ (some 57) _) _
    simp only [Act.put,lsT,ls0,lsS]
    obtain ⟨wd,hwd⟩ : ∃ wd,wd = wo.drew:=⟨_,rfl⟩
    rw [← hwd] at hd0 hHeld ⊢
    clear hwd
    refine wpAnyU_ready (rs:=[5,9,11]) (by kernel_rfl) (by simp) ?_
    refine AllReadyU.cons rfl (fun K hK => ?_) (AllReadyU.cons rfl (fun K hK => ?_) (AllReadyU.cons rfl (fun K hK => ?_) AllReadyU.nil))
    ·
     go_simp
     refine (hfo.out _ hd0).mono ?_
     rintro e wa5 ⟨rfl,hfC⟩
     have ha5 : Fr wo wa5:=Fr.trans hd0 hfC
     (try replace hMk:=hMk.fr hfC)
     (try replace hAl:=hAl.fr hfC)
     (try replace hM2:=Nat.lt_of_lt_of_le hM2 hfC.size)
     go_wp2_with fail
     refine hK.out _ _ (hS0.out _ ha5) (fun hHeld => ?_)
     clear hK K hfC
     try simp only [Act.put,lsT,ls0,lsS]
     refine wpAnyU_ready (rs:=[9,11]) (by kernel_rfl) (by simp) ?_
     refine AllReadyU.cons rfl (fun K hK => ?_) (AllReadyU.cons rfl (fun K hK => ?_) AllReadyU.nil)
     ·
      refine step_make_full _ rfl _ _ 29 rfl wa5.heap.size 3 i4 _ 1 Tryz.underlying29 li lz0 lz1 .i64 .i64 (d : Int) (d : Int) d (by simp [Act.eval]) (by simp [Act.eval]) rfl rfl (by rw [lz2]; omega) (by unfold maxLen; omega) (Nat.le_refl _) ?_
      intro wb9 hownM hgrM
      have hfM : Fr wa5 wb9:=(Fr.refl _).grown hgrM (fun k e => by cases e)
      have hb9 : Fr wo wb9:=Fr.trans ha5 hfM
      rw [made_zero d rfl] at hownM
      (try have hAl9:=hAl.lt)
      obtain ⟨gO,hgO⟩ : ∃ gO,gO = wa5.heap.size:=⟨_,rfl⟩
      rw [← hgO] at hownM ⊢
      have hM1 : wo.heap.size ≤ gO:=by rw [hgO]; exact Fr.size ha5
      (try have hne : gO ≠ ob:=by omega)
      replace hgO:=Lib.hid hgO
      have hMk:=(ownsRow_ownI (by omega) (ownsRow_mono (base':=gN) hownM (by have:=hgO.out; omega))).1
      have hM2 : gO < wb9.heap.size:=(hownM.lt gO rfl).2
      (try replace hAl:=hAl.fr hfM)
      refine hK.out _ _ (hS0.out _ hb9) (fun hHeld => ?_)
      clear hK K hownM hgrM
      try simp only [Act.put,lsT]
      refine uT (v:=?_) 10 rfl (by kernel_rfl) (.inl ⟨by rfl, ?_⟩) (by assumption) ?_
      rotate_left
      ·(intro w hSw; (try dsimp only at hSw); go_simp; try (with_reducible rfl))
      change wpAnyU _ _ _ _ _ _ _ _ (Act.put _ (some 59) _) _
      simp only [Act.put]
      refine wpAnyU_ready (rs:=[11]) (by kernel_rfl) (by simp) ?_
      refine AllReadyU.cons rfl (fun K hK => ?_) AllReadyU.nil
      go_simp
      refine hK.out _ _ (hS0.out _ (Fr.alloc hb9 _)) (fun hHeld => ?_)
      clear hK K
      try simp only [Act.put,lsT,ls0,lsS]
      obtain ⟨wc11,hW⟩ : ∃ W,W = wb9.alloc (.cells #[.int .i64 0,.slice none 0 0] 37):=⟨_,rfl⟩
      have hfA : Fr wb9 wc11:=by rw [hW]; exact (Fr.refl _).alloc _
      have hc11 : Fr wo wc11:=Fr.trans hb9 hfA
      obtain ⟨ob,hob⟩ : ∃ ob,ob = wb9.heap.size:=⟨_,rfl⟩
      have hAl : Cel2 wc11 ob (.int .i64 0) (.slice none 0 0):=by rw [hW,hob]; exact Cel2.new _ _ _ _
      have hA1 : wo.heap.size ≤ ob:=by rw [hob]; exact Fr.size hb9
      (try have hne : gO ≠ ob:=by omega)
      rw [← hob,← hW]
      rw [← hW] at hHeld
      (try replace hMk:=hMk.fr hfA)
      (try replace hM2:=Nat.lt_of_lt_of_le hM2 hfA.size)
      clear hW
      replace hob:=Lib.hid hob
      have hC9:=Lib.hid ((hAl.set0 (.int .i64 i0)).set1 (.slice (some ⟨gO,0,none⟩) d d))
      have hfx9 : Hid (Fx (· = ob) wc11 ((wc11.setCell ⟨ob,0,none⟩ (.int .i64 i0)).setCell ⟨ob,1,none⟩ (.slice (some ⟨gO,0,none⟩) d d))):=Fx.setCell (p:=(· = ob)) (q:=⟨ob,1,none⟩) (Fx.setCell (p:=(· = ob)) (q:=⟨ob,0,none⟩) (Fx.refl _ wc11) (.inl rfl) _) (.inl rfl) _
      have x1:=(hAl.set0 (.int .i64 i0)).b
      have x2:=(hAl.set0 (.int .i64 i0)).fb
      obtain ⟨p0,p1,p2,p3⟩:=hAl
      replace hMk:=Lib.hid hMk
      clear hHeld
      refine wpAnyU_ready (rs:=[12]) (by kernel_rfl) (by simp) ?_
      refine AllReadyU.last rfl (by kernel_rfl) (by kernel_rfl) (fun K hK => ?_)
      go_simp
      refine hK.out _ _ ?_
      clear hK K
      go_wp2_with fail
      go_meet
      case rel => exact ⟨gO,ob,rfl,((Fx.of_fr hc11).trans hfx9.out).toFr (fun k hk e => by have e : k = ob:=e; omega),hC9.out,hMk.out.fx hfx9.out (fun e => hne e),hM1,hA1,hne⟩
     ·
      go_simp
      refine hK.out _ _ (hS0.out _ (Fr.alloc ha5 _)) (fun hHeld => ?_)
      clear hK K
      try simp only [Act.put,lsT,ls0,lsS]
      obtain ⟨wb11,hW⟩ : ∃ W,W = wa5.alloc (.cells #[.int .i64 0,.slice none 0 0] 37):=⟨_,rfl⟩
      have hfA : Fr wa5 wb11:=by rw [hW]; exact (Fr.refl _).alloc _
      have hb11 : Fr wo wb11:=Fr.trans ha5 hfA
      obtain ⟨ob,hob⟩ : ∃ ob,ob = wa5.heap.size:=⟨_,rfl⟩
      have hAl : Cel2 wb11 ob (.int .i64 0) (.slice none 0 0):=by rw [hW,hob]; exact Cel2.new _ _ _ _
      have hA1 : wo.heap.size ≤ ob:=by rw [hob]; exact Fr.size ha5
      (try have hne : gO ≠ ob:=by omega)
      rw [← hob,← hW]
      rw [← hW] at hHeld
      (try replace hMk:=hMk.fr hfA)
      (try replace hM2:=Nat.lt_of_lt_of_le hM2 hfA.size)
      clear hW
      replace hob:=Lib.hid hob
      refine wpAnyU_ready (rs:=[9]) (by kernel_rfl) (by simp) ?_
      refine AllReadyU.cons rfl (fun K hK => ?_) AllReadyU.nil
      refine step_make_full _ rfl _ _ 29 rfl wb11.heap.size 3 i4 _ 1 Tryz.underlying29 li lz0 lz1 .i64 .i64 (d : Int) (d : Int) d (by simp [Act.eval]) (by simp [Act.eval]) rfl rfl (by rw [lz2]; omega) (by unfold maxLen; omega) (Nat.le_refl _) ?_
      intro wc9 hownM hgrM
      have hfM : Fr wb11 wc9:=(Fr.refl _).grown hgrM (fun k e => by cases e)
      have hc9 : Fr wo wc9:=Fr.trans hb11 hfM
      rw [made_zero d rfl] at hownM
      (try have hAl9:=hAl.lt)
      obtain ⟨gO,hgO⟩ : ∃ gO,gO = wb11.heap.size:=⟨_,rfl⟩
      rw [← hgO] at hownM ⊢
      have hM1 : wo.heap.size ≤ gO:=by rw [hgO]; exact Fr.size hb11
      (try have hne : gO ≠ ob:=by omega)
      replace hgO:=Lib.hid hgO
      have hMk:=(ownsRow_ownI (by omega) (ownsRow_mono (base':=gN) hownM (by have:=hgO.out; omega))).1
      have hM2 : gO < wc9.heap.size:=(hownM.lt gO rfl).2
      (try replace hAl:=hAl.fr hfM)
      refine hK.out _ _ (hS0.out _ hc9) (fun hHeld => ?_)
      clear hK K hownM hgrM
      try simp only [Act.put,lsT]
      refine uT (v:=?_) 10 rfl (by kernel_rfl) (.inl ⟨by rfl, ?_⟩) (by assumption) ?_
      rotate_left
      ·(intro w hSw; (try dsimp only at hSw); go_simp; try (with_reducible rfl))
      change wpAnyU _ _ _ _ _ _ _ _ (Act.put _ (some 59) _) _
      simp only [Act.put]
      have hC9:=Lib.hid ((hAl.set0 (.int .i64 i0)).set1 (.slice (some ⟨gO,0,none⟩) d d))
      have hfx9 : Hid (Fx (· = ob) wc9 ((wc9.setCell ⟨ob,0,none⟩ (.int .i64 i0)).setCell ⟨ob,1,none⟩ (.slice (some ⟨gO,0,none⟩) d d))):=Fx.setCell (p:=(· = ob)) (q:=⟨ob,1,none⟩) (Fx.setCell (p:=(· = ob)) (q:=⟨ob,0,none⟩) (Fx.refl _ wc9) (.inl rfl) _) (.inl rfl) _
      have x1:=(hAl.set0 (.int .i64 i0)).b
      have x2:=(hAl.set0 (.int .i64 i0)).fb
      obtain ⟨p0,p1,p2,p3⟩:=hAl
      replace hMk:=Lib.hid hMk
      clear hHeld
      refine wpAnyU_ready (rs:=[12]) (by kernel_rfl) (by simp) ?_
      refine AllReadyU.last rfl (by kernel_rfl) (by kernel_rfl) (fun K hK => ?_)
      go_simp
      refine hK.out _ _ ?_
      clear hK K
      go_wp2_with fail
      go_meet
      case rel => exact ⟨gO,ob,rfl,((Fx.of_fr hc9).trans hfx9.out).toFr (fun k hk e => by have e : k = ob:=e; omega),hC9.out,hMk.out.fx hfx9.out (fun e => hne e),hM1,hA1,hne⟩
    ·
     refine step_make_full _ rfl _ _ 29 rfl wd.heap.size 3 i4 _ 1 Tryz.underlying29 li lz0 lz1 .i64 .i64 (d : Int) (d : Int) d (by simp [Act.eval]) (by simp [Act.eval]) rfl rfl (by rw [lz2]; omega) (by unfold maxLen; omega) (Nat.le_refl _) ?_
     intro wa9 hownM hgrM
     have hfM : Fr wd wa9:=(Fr.refl _).grown hgrM (fun k e => by cases e)
     have ha9 : Fr wo wa9:=Fr.trans hd0 hfM
     rw [made_zero d rfl] at hownM
     (try have hAl9:=hAl.lt)
     obtain ⟨gO,hgO⟩ : ∃ gO,gO = wd.heap.size:=⟨_,rfl⟩
     rw [← hgO] at hownM ⊢
     have hM1 : wo.heap.size ≤ gO:=by rw [hgO]; exact Fr.size hd0
     (try have hne : gO ≠ ob:=by omega)
     replace hgO:=Lib.hid hgO
     have hMk:=(ownsRow_ownI (by omega) (ownsRow_mono (base':=gN) hownM (by have:=hgO.out; omega))).1
     have hM2 : gO < wa9.heap.size:=(hownM.lt gO rfl).2
     (try replace hAl:=hAl.fr hfM)
     refine hK.out _ _ (hS0.out _ ha9) (fun hHeld => ?_)
     clear hK K hownM hgrM
     try simp only [Act.put,lsT]
     refine wpAnyU_ready (rs:=[5,11]) (by kernel_rfl) (by simp) ?_
     refine AllReadyU.cons rfl (fun K hK => ?_) (AllReadyU.cons rfl (fun K hK => ?_) AllReadyU.nil)
     ·
      go_simp
      refine (hfo.out _ ha9).mono ?_
      rintro e wb5 ⟨rfl,hfC⟩
      have hb5 : Fr wo wb5:=Fr.trans ha9 hfC
      (try replace hMk:=hMk.fr hfC)
      (try replace hAl:=hAl.fr hfC)
      (try replace hM2:=Nat.lt_of_lt_of_le hM2 hfC.size)
      go_wp2_with fail
      refine hK.out _ _ (hS0.out _ hb5) (fun hHeld => ?_)
      clear hK K hfC
      try simp only [Act.put,lsT,ls0,lsS]
      refine uT (v:=?_) 10 rfl (by kernel_rfl) (.inl ⟨by rfl, ?_⟩) (by assumption) ?_
      rotate_left
      ·(intro w hSw; (try dsimp only at hSw); go_simp; try (with_reducible rfl))
      change wpAnyU _ _ _ _ _ _ _ _ (Act.put _ (some 59) _) _
      simp only [Act.put,lsT,ls0,lsS]
      refine wpAnyU_ready (rs:=[11]) (by kernel_rfl) (by simp) ?_
      refine AllReadyU.cons rfl (fun K hK => ?_) AllReadyU.nil
      go_simp
      refine hK.out _ _ (hS0.out _ (Fr.alloc hb5 _)) (fun hHeld => ?_)
      clear hK K
      try simp only [Act.put,lsT,ls0,lsS]
      obtain ⟨wc11,hW⟩ : ∃ W,W = wb5.alloc (.cells #[.int .i64 0,.slice none 0 0] 37):=⟨_,rfl⟩
      have hfA : Fr wb5 wc11:=by rw [hW]; exact (Fr.refl _).alloc _
      have hc11 : Fr wo wc11:=Fr.trans hb5 hfA
      obtain ⟨ob,hob⟩ : ∃ ob,ob = wb5.heap.size:=⟨_,rfl⟩
      have hAl : Cel2 wc11 ob (.int .i64 0) (.slice none 0 0):=by rw [hW,hob]; exact Cel2.new _ _ _ _
      have hA1 : wo.heap.size ≤ ob:=by rw [hob]; exact Fr.size hb5
      (try have hne : gO ≠ ob:=by omega)
      rw [← hob,← hW]
      rw [← hW] at hHeld
      (try replace hMk:=hMk.fr hfA)
      (try replace hM2:=Nat.lt_of_lt_of_le hM2 hfA.size)
      clear hW
      replace hob:=Lib.hid hob
      have hC9:=Lib.hid ((hAl.set0 (.int .i64 i0)).set1 (.slice (some ⟨gO,0,none⟩) d d))
      have hfx9 : Hid (Fx (· = ob) wc11 ((wc11.setCell ⟨ob,0,none⟩ (.int .i64 i0)).setCell ⟨ob,1,none⟩ (.slice (some ⟨gO,0,none⟩) d d))):=Fx.setCell (p:=(· = ob)) (q:=⟨ob,1,none⟩) (Fx.setCell (p:=(· = ob)) (q:=⟨ob,0,none⟩) (Fx.refl _ wc11) (.inl rfl) _) (.inl rfl) _
      have x1:=(hAl.set0 (.int .i64 i0)).b
      have x2:=(hAl.set0 (.int .i64 i0)).fb
      obtain ⟨p0,p1,p2,p3⟩:=hAl
      replace hMk:=Lib.hid hMk
      clear hHeld
      refine wpAnyU_ready (rs:=[12]) (by kernel_rfl) (by simp) ?_
      refine AllReadyU.last rfl (by kernel_rfl) (by kernel_rfl) (fun K hK => ?_)
      go_simp
      refine hK.out _ _ ?_
      clear hK K
      go_wp2_with fail
      go_meet
      case rel => exact ⟨gO,ob,rfl,((Fx.of_fr hc11).trans hfx9.out).toFr (fun k hk e => by have e : k = ob:=e; omega),hC9.out,hMk.out.fx hfx9.out (fun e => hne e),hM1,hA1,hne⟩
     ·
      go_simp
      refine hK.out _ _ (hS0.out _ (Fr.alloc ha9 _)) (fun hHeld => ?_)
      clear hK K
      try simp only [Act.put,lsT,ls0,lsS]
      obtain ⟨wb11,hW⟩ : ∃ W,W = wa9.alloc (.cells #[.int .i64 0,.slice none 0 0] 37):=⟨_,rfl⟩
      have hfA : Fr wa9 wb11:=by rw [hW]; exact (Fr.refl _).alloc _
      have hb11 : Fr wo wb11:=Fr.trans ha9 hfA
      obtain ⟨ob,hob⟩ : ∃ ob,ob = wa9.heap.size:=⟨_,rfl⟩
      have hAl : Cel2 wb11 ob (.int .i64 0) (.slice none 0 0):=by rw [hW,hob]; exact Cel2.new _ _ _ _
      have hA1 : wo.heap.size ≤ ob:=by rw [hob]; exact Fr.size ha9
      (try have hne : gO ≠ ob:=by omega)
      rw [← hob,← hW]
      rw [← hW] at hHeld
      (try replace hMk:=hMk.fr hfA)
      (try replace hM2:=Nat.lt_of_lt_of_le hM2 hfA.size)
      clear hW
      replace hob:=Lib.hid hob
      refine wpAnyU_ready (rs:=[5]) (by kernel_rfl) (by simp) ?_
      refine AllReadyU.cons rfl (fun K hK => ?_) AllReadyU.nil
      go_simp
      refine (hfo.out _ hb11).mono ?_
      rintro e wc5 ⟨rfl,hfC⟩
      have hc5 : Fr wo wc5:=Fr.trans hb11 hfC
      (try replace hMk:=hMk.fr hfC)
      (try replace hAl:=hAl.fr hfC)
      (try replace hM2:=Nat.lt_of_lt_of_le hM2 hfC.size)
      go_wp2_with fail
      refine hK.out _ _ (hS0.out _ hc5) (fun hHeld => ?_)
      clear hK K hfC
      try simp only [Act.put,lsT,ls0,lsS]
      refine uT (v:=?_) 10 rfl (by kernel_rfl) (.inl ⟨by rfl, ?_⟩) (by assumption) ?_
      rotate_left
      ·(intro w hSw; (try dsimp only at hSw); go_simp; try (with_reducible rfl))
      change wpAnyU _ _ _ _ _ _ _ _ (Act.put _ (some 59) _) _
      simp only [Act.put,lsT,ls0,lsS]
      have hC9:=Lib.hid ((hAl.set0 (.int .i64 i0)).set1 (.slice (some ⟨gO,0,none⟩) d d))
      have hfx9 : Hid (Fx (· = ob) wc5 ((wc5.setCell ⟨ob,0,none⟩ (.int .i64 i0)).setCell ⟨ob,1,none⟩ (.slice (some ⟨gO,0,none⟩) d d))):=Fx.setCell (p:=(· = ob)) (q:=⟨ob,1,none⟩) (Fx.setCell (p:=(· = ob)) (q:=⟨ob,0,none⟩) (Fx.refl _ wc5) (.inl rfl) _) (.inl rfl) _
      have x1:=(hAl.set0 (.int .i64 i0)).b
      have x2:=(hAl.set0 (.int .i64 i0)).fb
      obtain ⟨p0,p1,p2,p3⟩:=hAl
      replace hMk:=Lib.hid hMk
      clear hHeld
      refine wpAnyU_ready (rs:=[12]) (by kernel_rfl) (by simp) ?_
      refine AllReadyU.last rfl (by kernel_rfl) (by kernel_rfl) (fun K hK => ?_)
      go_simp
      refine hK.out _ _ ?_
      clear hK K
      go_wp2_with fail
      go_meet
      case rel => exact ⟨gO,ob,rfl,((Fx.of_fr hc5).trans hfx9.out).toFr (fun k hk e => by have e : k = ob:=e; omega),hC9.out,hMk.out.fx hfx9.out (fun e => hne e),hM1,hA1,hne⟩
    ·
     go_simp
     refine hK.out _ _ (hS0.out _ (Fr.alloc hd0 _)) (fun hHeld => ?_)
     clear hK K
     try simp only [Act.put,lsT,ls0,lsS]
     obtain ⟨wa11,hW⟩ : ∃ W,W = wd.alloc (.cells #[.int .i64 0,.slice none 0 0] 37):=⟨_,rfl⟩
     have hfA : Fr wd wa11:=by rw [hW]; exact (Fr.refl _).alloc _
     have ha11 : Fr wo wa11:=Fr.trans hd0 hfA
     obtain ⟨ob,hob⟩ : ∃ ob,ob = wd.heap.size:=⟨_,rfl⟩
     have hAl : Cel2 wa11 ob (.int .i64 0) (.slice none 0 0):=by rw [hW,hob]; exact Cel2.new _ _ _ _
     have hA1 : wo.heap.size ≤ ob:=by rw [hob]; exact Fr.size hd0
     (try have hne : gO ≠ ob:=by omega)
     rw [← hob,← hW]
     rw [← hW] at hHeld
     (try replace hMk:=hMk.fr hfA)
     (try replace hM2:=Nat.lt_of_lt_of_le hM2 hfA.size)
     clear hW
     replace hob:=Lib.hid hob
     refine wpAnyU_ready (rs:=[5,9]) (by kernel_rfl) (by simp) ?_
     refine AllReadyU.cons rfl (fun K hK => ?_) (AllReadyU.cons rfl (fun K hK => ?_) AllReadyU.nil)
     ·
      go_simp
      refine (hfo.out _ ha11).mono ?_
      rintro e wb5 ⟨rfl,hfC⟩
      have hb5 : Fr wo wb5:=Fr.trans ha11 hfC
      (try replace hMk:=hMk.fr hfC)
      (try replace hAl:=hAl.fr hfC)
      (try replace hM2:=Nat.lt_of_lt_of_le hM2 hfC.size)
      go_wp2_with fail
      refine hK.out _ _ (hS0.out _ hb5) (fun hHeld => ?_)
      clear hK K hfC
      try simp only [Act.put,lsT,ls0,lsS]
      refine wpAnyU_ready (rs:=[9]) (by kernel_rfl) (by simp) ?_
      refine AllReadyU.cons rfl (fun K hK => ?_) AllReadyU.nil
      refine step_make_full _ rfl _ _ 29 rfl wb5.heap.size 3 i4 _ 1 Tryz.underlying29 li lz0 lz1 .i64 .i64 (d : Int) (d : Int) d (by simp [Act.eval]) (by simp [Act.eval]) rfl rfl (by rw [lz2]; omega) (by unfold maxLen; omega) (Nat.le_refl _) ?_
      intro wc9 hownM hgrM
      have hfM : Fr wb5 wc9:=(Fr.refl _).grown hgrM (fun k e => by cases e)
      have hc9 : Fr wo wc9:=Fr.trans hb5 hfM
      rw [made_zero d rfl] at hownM
      (try have hAl9:=hAl.lt)
      obtain ⟨gO,hgO⟩ : ∃ gO,gO = wb5.heap.size:=⟨_,rfl⟩
      rw [← hgO] at hownM ⊢
      have hM1 : wo.heap.size ≤ gO:=by rw [hgO]; exact Fr.size hb5
      (try have hne : gO ≠ ob:=by omega)
      replace hgO:=Lib.hid hgO
      have hMk:=(ownsRow_ownI (by omega) (ownsRow_mono (base':=gN) hownM (by have:=hgO.out; omega))).1
      have hM2 : gO < wc9.heap.size:=(hownM.lt gO rfl).2
      (try replace hAl:=hAl.fr hfM)
      refine hK.out _ _ (hS0.out _ hc9) (fun hHeld => ?_)
      clear hK K hownM hgrM
      try simp only [Act.put,lsT]
      refine uT (v:=?_) 10 rfl (by kernel_rfl) (.inl ⟨by rfl, ?_⟩) (by assumption) ?_
      rotate_left
      ·(intro w hSw; (try dsimp only at hSw); go_simp; try (with_reducible rfl))
      change wpAnyU _ _ _ _ _ _ _ _ (Act.put _ (some 59) _) _
      simp only [Act.put]
      have hC9:=Lib.hid ((hAl.set0 (.int .i64 i0)).set1 (.slice (some ⟨gO,0,none⟩) d d))
      have hfx9 : Hid (Fx (· = ob) wc9 ((wc9.setCell ⟨ob,0,none⟩ (.int .i64 i0)).setCell ⟨ob,1,none⟩ (.slice (some ⟨gO,0,none⟩) d d))):=Fx.setCell (p:=(· = ob)) (q:=⟨ob,1,none⟩) (Fx.setCell (p:=(· = ob)) (q:=⟨ob,0,none⟩) (Fx.refl _ wc9) (.inl rfl) _) (.inl rfl) _
      have x1:=(hAl.set0 (.int .i64 i0)).b
      have x2:=(hAl.set0 (.int .i64 i0)).fb
      obtain ⟨p0,p1,p2,p3⟩:=hAl
      replace hMk:=Lib.hid hMk
      clear hHeld
      refine wpAnyU_ready (rs:=[12]) (by kernel_rfl) (by simp) ?_
      refine AllReadyU.last rfl (by kernel_rfl) (by kernel_rfl) (fun K hK => ?_)
      go_simp
      refine hK.out _ _ ?_
      clear hK K
      go_wp2_with fail
      go_meet
      case rel => exact ⟨gO,ob,rfl,((Fx.of_fr hc9).trans hfx9.out).toFr (fun k hk e => by have e : k = ob:=e; omega),hC9.out,hMk.out.fx hfx9.out (fun e => hne e),hM1,hA1,hne⟩
     ·
      refine step_make_full _ rfl _ _ 29 rfl wa11.heap.size 3 i4 _ 1 Tryz.underlying29 li lz0 lz1 .i64 .i64 (d : Int) (d : Int) d (by simp [Act.eval]) (by simp [Act.eval]) rfl rfl (by rw [lz2]; omega) (by unfold maxLen; omega) (Nat.le_refl _) ?_
      intro wb9 hownM hgrM
      have hfM : Fr wa11 wb9:=(Fr.refl _).grown hgrM (fun k e => by cases e)
      have hb9 : Fr wo wb9:=Fr.trans ha11 hfM
      rw [made_zero d rfl] at hownM
      (try have hAl9:=hAl.lt)
      obtain ⟨gO,hgO⟩ : ∃ gO,gO = wa11.heap.size:=⟨_,rfl⟩
      rw [← hgO] at hownM ⊢
      have hM1 : wo.heap.size ≤ gO:=by rw [hgO]; exact Fr.size ha11
      (try have hne : gO ≠ ob:=by omega)
      replace hgO:=Lib.hid hgO
      have hMk:=(ownsRow_ownI (by omega) (ownsRow_mono (base':=gN) hownM (by have:=hgO.out; omega))).1
      have hM2 : gO < wb9.heap.size:=(hownM.lt gO rfl).2
      (try replace hAl:=hAl.fr hfM)
      refine hK.out _ _ (hS0.out _ hb9) (fun hHeld => ?_)
      clear hK K hownM hgrM
      try simp only [Act.put,lsT]
      refine wpAnyU_ready (rs:=[5]) (by kernel_rfl) (by simp) ?_
      refine AllReadyU.cons rfl (fun K hK => ?_) AllReadyU.nil
      go_simp
      refine (hfo.out _ hb9).mono ?_
      rintro e wc5 ⟨rfl,hfC⟩
      have hc5 : Fr wo wc5:=Fr.trans hb9 hfC
      (try replace hMk:=hMk.fr hfC)
      (try replace hAl:=hAl.fr hfC)
      (try replace hM2:=Nat.lt_of_lt_of_le hM2 hfC.size)
      go_wp2_with fail
      refine hK.out _ _ (hS0.out _ hc5) (fun hHeld => ?_)
      clear hK K hfC
      try simp only [Act.put,lsT,ls0,lsS]
      refine uT (v:=?_) 10 rfl (by kernel_rfl) (.inl ⟨by rfl, ?_⟩) (by assumption) ?_
      rotate_left
      ·(intro w hSw; (try dsimp only at hSw); go_simp; try (with_reducible rfl))
      change wpAnyU _ _ _ _ _ _ _ _ (Act.put _ (some 59) _) _
      simp only [Act.put,lsT,ls0,lsS]
      have hC9:=Lib.hid ((hAl.set0 (.int .i64 i0)).set1 (.slice (some ⟨gO,0,none⟩) d d))
      have hfx9 : Hid (Fx (· = ob) wc5 ((wc5.setCell ⟨ob,0,none⟩ (.int .i64 i0)).setCell ⟨ob,1,none⟩ (.slice (some ⟨gO,0,none⟩) d d))):=Fx.setCell (p:=(· = ob)) (q:=⟨ob,1,none⟩) (Fx.setCell (p:=(· = ob)) (q:=⟨ob,0,none⟩) (Fx.refl _ wc5) (.inl rfl) _) (.inl rfl) _
      have x1:=(hAl.set0 (.int .i64 i0)).b
      have x2:=(hAl.set0 (.int .i64 i0)).fb
      obtain ⟨p0,p1,p2,p3⟩:=hAl
      replace hMk:=Lib.hid hMk
      clear hHeld
      refine wpAnyU_ready (rs:=[12]) (by kernel_rfl) (by simp) ?_
      refine AllReadyU.last rfl (by kernel_rfl) (by kernel_rfl) (fun K hK => ?_)
      go_simp
      refine hK.out _ _ ?_
      clear hK K
      go_wp2_with fail
      go_meet
      case rel => exact ⟨gO,ob,rfl,((Fx.of_fr hc5).trans hfx9.out).toFr (fun k hk e => by have e : k = ob:=e; omega),hC9.out,hMk.out.fx hfx9.out (fun e => hne e),hM1,hA1,hne⟩
   obtain ⟨gO,ob,rfl,hfc,hO5,hOw,hgo1,hgo2,hgo3⟩:=hcut
   obtain ⟨W5,rfl⟩ : ∃ W5 : World,W5 = wc:=⟨_,rfl⟩
   have hF5:=hFr.trans hfc
   have f15:=Lib.hid (hf2.trans hfc)
   have hcw5:=Lib.hid (fun W (hW : Fr W5 W) (i : Nat) (x : ByteArray) (h : (v0 :: vs)[i]? = some x) => (hfc.trans hW).keep (hcw.out i x h))
   have o0:=hO5.a
   clear n0 n1 k0 hS0 hfo hcw
   replace hOw:=Lib.hid hOw
   replace hO5:=Lib.hid hO5
   by_cases hneg : i0 < 0
   ·have di : decide (i0 < 0) = true:=decide_eq_true hneg
    have hS9 : Cel2 W5 (nb + 1) (.int .i64 0) (.slice none 0 0):=hS1.out.fr f15.out
    have hS10:=Lib.hid ((hS9.set0 (.int .i64 0)).set1 (.slice none 0 0))
    have hfx10 : Hid (Fx (· = nb + 1) W5 (((W5).setCell ⟨nb + 1,0,none⟩ (.int .i64 0)).setCell ⟨nb + 1,1,none⟩ (.slice none 0 0))):=Fx.setCell (p:=(· = nb + 1)) (q:=⟨nb + 1,1,none⟩) (Fx.setCell (p:=(· = nb + 1)) (q:=⟨nb + 1,0,none⟩) (Fx.refl _ W5) (.inl rfl) _) (.inl rfl) _
    have hfw10 : Hid (Fr w (((W5).setCell ⟨nb + 1,0,none⟩ (.int .i64 0)).setCell ⟨nb + 1,1,none⟩ (.slice none 0 0))):=((Fx.of_fr (hF5)).trans hfx10.out).toFr (fun k hk e => by have e : k = nb + 1:=e; have:=hnb.out; omega)
    have hEE:=Lib.hid (show prsE N A v0 vs = 10 from (by rw [hPE9.out,if_pos hneg]))
    have x1:=(hS9.set0 (.int .i64 0)).b
    have x2:=(hS9.set0 (.int .i64 0)).fb
    obtain ⟨b0,b1,e0,e1⟩:=hS9
    go_wp2_with fail
    have q0:=hS10.out.a
    have q1:=hS10.out.b
    refine bodyPost_ret (v:=.tuple #[.agg #[.int .i64 0,.slice none 0 0],.int .i64 10]) (by simp [results,Tryz.results16,go_sem,q0,q1]) rfl ?_
    exact PsgRet.err hEE.out (by decide) hfw10.out
   have di : decide (i0 < 0) = false:=decide_eq_false hneg
   replace hPE9 : Hid _:=(hPE9.out.trans (if_neg hneg))
   replace hneg:=Lib.hid hneg
   go_wp2_with fail
   clear o0
   go_loopg [12,13,14] m (fun k s12 s13 s14 wr => ∃ i : Nat,s14 = .int .i64 ((i + 1 : Nat) : Int) ∧ i + k = m ∧ Fr W5 wr ∧ Hid (wr.ownsRow W5.heap.size 56 1 s12 i ((pcs.take i).map fun p => .string (tx p.val))) ∧ Hid (wr.ownsRow W5.heap.size 3 1 s13 i ((ats.take i).map iv)) ∧ Hid (∀ (j : Nat) (t : Int),j < i → ats[j]? = some t → 0 ≤ t))
   case atStart => exact ⟨0,rfl,by omega,Fr.refl _,World.ownsRow_nil _ _ _ _,World.ownsRow_nil _ _ _ _,fun j t h => by omega⟩
   case round =>
    obtain ⟨i,rfl,hik2,hf6,hownA,hownB,hnn⟩:=hrel
    obtain ⟨wv,rfl⟩ : ∃ wv : World,wv = wr:=⟨_,rfl⟩
    obtain ⟨kv,rfl⟩ : ∃ kv : Nat,kv = gk:=⟨_,rfl⟩
    obtain ⟨sA,rfl⟩ : ∃ sA : Value,sA = u12:=⟨_,rfl⟩
    obtain ⟨sB,rfl⟩ : ∃ sB : Value,sB = u13:=⟨_,rfl⟩
    by_cases hi : i < m
    ·have hdI : decide (i + 1 < m + 1) = true:=decide_eq_true (by omega)
     have hdI2 : decide (((i + 1 : Nat) : Int) < ((m + 1 : Nat) : Int)) = true:=decide_eq_true (by omega)
     obtain ⟨x,hx⟩ : ∃ x,vs[i]? = some x:=⟨_,List.getElem?_eq_getElem (by rw [← hm.out]; exact hi)⟩
     obtain ⟨p,hp⟩ : ∃ p,pcs[i]? = some p:=⟨_,List.getElem?_eq_getElem (by rw [hpl.out]; exact hi)⟩
     have hpx:=hall.out.2 i x p hx hp
     obtain ⟨t,ht0⟩ : ∃ t,t = symI A p.nm:=⟨_,rfl⟩
     have ht : ats[i]? = some t:=by rw [ht0]; exact hati.out i p hp
     have hc1:=hcw5.out wv hf6 (i + 1) x (by simpa using hx)
     have hxs:=hwsz.out x (List.mem_cons_of_mem _ (List.mem_of_getElem? hx))
     have hcu:=Lib.hid (fun W : World => LawCut_any x W (by omega))
     have hfA1:=Lib.hid (fun W (hW : Fr wv W) => hfa.out p.nm W ((hF5.trans hf6).trans hW))
     rw [← ht0] at hfA1
     have htr:=(hatr.out i t ht).1
     have hsA : Hid ((pcs.take (i + 1)).map (fun p => Value.string (tx p.val)) = (pcs.take i).map (fun p => .string (tx p.val)) ++ [.string (tx p.val)]):=by show _ = _; rw [take_snoc hp,List.map_append]; rfl
     have hsB : Hid ((ats.take (i + 1)).map iv = (ats.take i).map iv ++ [iv t]):=by show _ = _; rw [take_snoc ht,List.map_append]; rfl
     have n1:=(f15.out.trans hf6).keep hN1.out.b
     have z0 : (0 : Int) ≤ ((i + 1 : Nat) : Int):=Int.natCast_nonneg _
     have z1 : ((i + 1 : Nat) : Int) < ((m + 1 : Nat) : Int):=by omega
     replace hx:=Lib.hid hx
     replace ht0:=Lib.hid ht0
     replace ht:=Lib.hid ht
     replace hp:=Lib.hid hp
     go_wp2_with fail
     refine (hcu.out _).mono ?_
     rintro e wA ⟨⟨p',hpp,rfl⟩ | ⟨hno,rfl⟩,rfl⟩
     rotate_left
     ·rw [hpx] at hno; cases hno
     obtain rfl : p = p':=by rw [hpx] at hpp; injection hpp
     replace hpx:=Lib.hid hpx
     clear hpp hc1
     obtain ⟨pn,hpn⟩ : ∃ pn,pn = p.nm:=⟨_,rfl⟩
     obtain ⟨pv,hpv⟩ : ∃ pv,pv = tx p.val:=⟨_,rfl⟩
     rw [← hpn] at hfA1
     rw [← hpv] at hsA
     rw [← hpn,← hpv]
     replace hpn:=Lib.hid hpn
     replace hpv:=Lib.hid hpv
     go_wp2_with fail
     refine (hfA1.out _ (Fr.refl _)).mono ?_
     rintro e wC ⟨rfl,hfC⟩
     have hf6C:=hf6.trans hfC
     clear n1
     by_cases htn : t < 0
     ·have dt : decide (t < 0) = true:=decide_eq_true htn
      have hcn : Hid (ats.contains (-1) = true):=List.contains_iff_mem.2 (by rw [show (-1 : Int) = t by omega]; exact List.mem_of_getElem? ht.out)
      have hS9 : Cel2 wC (nb + 1) (.int .i64 0) (.slice none 0 0):=hS1.out.fr (f15.out.trans hf6C)
      have hS10:=Lib.hid ((hS9.set0 (.int .i64 0)).set1 (.slice none 0 0))
      have hfx10 : Hid (Fx (· = nb + 1) wC (((wC).setCell ⟨nb + 1,0,none⟩ (.int .i64 0)).setCell ⟨nb + 1,1,none⟩ (.slice none 0 0))):=Fx.setCell (p:=(· = nb + 1)) (q:=⟨nb + 1,1,none⟩) (Fx.setCell (p:=(· = nb + 1)) (q:=⟨nb + 1,0,none⟩) (Fx.refl _ wC) (.inl rfl) _) (.inl rfl) _
      have hfw10 : Hid (Fr w (((wC).setCell ⟨nb + 1,0,none⟩ (.int .i64 0)).setCell ⟨nb + 1,1,none⟩ (.slice none 0 0))):=((Fx.of_fr (hF5.trans hf6C)).trans hfx10.out).toFr (fun k hk e => by have e : k = nb + 1:=e; have:=hnb.out; omega)
      have hEE:=Lib.hid (show prsE N A v0 vs = 10 from (by rw [hPE9.out,if_pos hcn.out]))
      have x1:=(hS9.set0 (.int .i64 0)).b
      have x2:=(hS9.set0 (.int .i64 0)).fb
      obtain ⟨b0,b1,e0,e1⟩:=hS9
      go_wp2_with fail
      have q0:=hS10.out.a
      have q1:=hS10.out.b
      refine bodyPost_ret (v:=.tuple #[.agg #[.int .i64 0,.slice none 0 0],.int .i64 10]) (by simp [results,Tryz.results16,go_sem,q0,q1]) rfl ?_
      exact PsgRet.err hEE.out (by decide) hfw10.out
     have dt : decide (t < 0) = false:=decide_eq_false htn
     have hnn2 : Hid (∀ (j : Nat) (a : Int),j < i + 1 → ats[j]? = some a → 0 ≤ a):=fun j a hj ha => by
      by_cases e : j = i
      ·subst e; have h9:=ht.out; rw [ha] at h9; injection h9 with h9; omega
      ·exact hnn.out j a (by omega) ha
     have hG1:=ownsRow_fr hownA.out hfC
     have hG2:=ownsRow_fr hownB.out hfC
     have hz9:=hf6C.size
     have hne9:=Lib.hid (own_ne (hG2.alloc (.cells #[.string pv] 56)) (hG1.alloc (.cells #[.string pv] 56)) (by decide))
     have hG2h:=Lib.hid hG2
     clear hG2
     go_wp2_with (first
      | (at_builtin; refine wpList_append_lies _ rfl _ _ 76 (by rfl) _ 56 _ _ 1 16 Tryz.underlying76 ki kz0 kz1 kz2 rfl (by decide) _ i _ (by rfl) (World.ownsRow.alloc hG1 _) ⟨wC.heap.size,0,none⟩ 1 1 [.string pv] (by rfl) rfl (cell_one_newN _ _ _ _ (by simp)) (by simp [Value.oneCell']) (by decide) (by unfold maxLen; omega) (by omega) (by skip; simp; omega) (wC.heap.size + 1) (by simp) ?_; intro gR capR wR hownR hgrowR hatR hltR; have hR2:=(hG2h.out.alloc (.cells #[.string pv] 56)).kept hgrowR hne9.out)
      | (at_builtin; refine wpList_append_lies _ rfl _ _ 28 (by rfl) _ 3 _ _ 1 8 Tryz.underlying28 li lz0 lz1 lz2 rfl (by decide) _ i _ (by rfl) (World.ownsRow.alloc hR2 _) ⟨wR.heap.size,0,none⟩ 1 1 [.int .i64 t] (by rfl) rfl (cell_one_newN _ _ _ _ (by simp)) (by simp [Value.oneCell']) (by decide) (by unfold maxLen; omega) (by omega) (by (have h77:=hgrowR.size; rw [World.size_alloc] at h77); simp; omega) (wR.heap.size + 1) (by simp) ?_; intro gS capS wS hownS hgrowS hatS hltS; skip))
     have hfR : Fr W5 wR:=(hf6C.alloc _).grown hgrowR (fun k e => (hownA.out.lt k e).1)
     have hfS : Fr W5 wS:=(hfR.alloc _).grown hgrowS (fun k e => (hownB.out.lt k e).1)
     have hRS:=Lib.hid ((hownR.alloc (.cells #[.int .i64 t] 3)).kept hgrowS (own_ne (hownR.alloc (.cells #[.int .i64 t] 3)) (hR2.alloc (.cells #[.int .i64 t] 3)) (by decide)))
     go_wp2_with fail
     go_roundg (kv - 1)
     case measure => omega
     case rel => exact ⟨i + 1,by go_num,by omega,hfS,by show World.ownsRow _ _ _ _ _ _ _; rw [hsA.out]; exact hRS.out,by show World.ownsRow _ _ _ _ _ _ _; rw [hsB.out]; exact hownS,hnn2.out⟩
    ·have hdI : decide (i + 1 < m + 1) = false:=decide_eq_false (by omega)
     have hdI2 : decide (((i + 1 : Nat) : Int) < ((m + 1 : Nat) : Int)) = false:=decide_eq_false (by omega)
     obtain rfl : m = i:=by omega
     have hat0 : Hid (∀ (i : Nat) (t : Int),ats[i]? = some t → 0 ≤ t):=fun i t ht => hnn.out i t (by have:=(List.getElem?_eq_some_iff.1 ht).1; have:=hal.out; omega) ht
     have hcn : ats.contains (-1) = false:=by
      rw [List.contains_eq_any_beq,List.any_eq_false]
      intro x hx
      obtain ⟨j,hj⟩:=List.mem_iff_getElem?.1 hx
      have:=hat0.out j x hj
      simp; omega
     replace hPE9 : Hid _:=(hPE9.out.trans (if_neg (by rw [hcn]; decide)))
     replace hcn:=Lib.hid hcn
     obtain ⟨aA4,cA4,rfl,hpsA⟩:=own_list hownA.out (by rw [List.length_map,List.length_take,hpl.out]; omega)
     obtain ⟨aB4,cB4,rfl,hpsB⟩:=own_list hownB.out (by rw [List.length_map,List.length_take,hal.out]; omega)
     have hcA : Hid (∀ (W : World),Fr wv W → ∀ (j : Nat) (p : Pc),pcs[j]? = some p → ∃ g,aA4 = some ⟨g,0,none⟩ ∧ W5.heap.size ≤ g ∧ W.cell? ⟨g,j,none⟩ = some (.string (tx p.val))):=fun W hW j p hj => by
      obtain ⟨g,e,h1,h2⟩:=hpsA j (.string (tx p.val)) (by rw [List.take_of_length_le (by rw [hpl.out]; exact Nat.le_refl _),List.getElem?_map,hj]; rfl)
      exact ⟨g,e,h1,hW.keep h2⟩
     have hcB : Hid (∀ (W : World),Fr wv W → ∀ (j : Nat) (t : Int),ats[j]? = some t → ∃ g,aB4 = some ⟨g,0,none⟩ ∧ W5.heap.size ≤ g ∧ W.cell? ⟨g,j,none⟩ = some (.int .i64 t)):=fun W hW j t hj => by
      obtain ⟨g,e,h1,h2⟩:=hpsB j (iv t) (by rw [List.take_of_length_le (by rw [hal.out]; exact Nat.le_refl _),List.getElem?_map,hj]; rfl)
      exact ⟨g,e,h1,hW.keep h2⟩
     have hFv:=hF5.trans hf6
     have hSv:=hS1.out.fr (f15.out.trans hf6)
     clear hpsA hpsB
     go_wp2_with fail
     go_loopg [19] (m - 1) (fun k s19 wr => ∃ i : Nat,s19 = .int .i64 ((i + 1 : Nat) : Int) ∧ (m ≤ i + 1 + k) ∧ (i + 1 ≤ m ∨ i = 0) ∧ Fr wv wr ∧ Hid (∀ (j : Nat) (a b : Int),j < i → ats[j]? = some a → ats[j + 1]? = some b → a < b))
     case atStart => exact ⟨0,rfl,by omega,by omega,Fr.refl _,fun j a b h => by omega⟩
     case round =>
      obtain ⟨i,rfl,hik3,hik4,hf7,hinc⟩:=hrel
      obtain ⟨wx,rfl⟩ : ∃ wx : World,wx = wr:=⟨_,rfl⟩
      obtain ⟨kx,rfl⟩ : ∃ kx : Nat,kx = gk:=⟨_,rfl⟩
      by_cases hi : i + 1 < m
      ·have hdI : decide ((i + 1 : Nat) < m) = true:=decide_eq_true hi
       have hdI2 : decide (((i + 1 : Nat) : Int) < (m : Int)) = true:=decide_eq_true (by omega)
       obtain ⟨t,ht⟩ : ∃ t,ats[i]? = some t:=⟨_,List.getElem?_eq_getElem (by rw [hal.out]; omega)⟩
       obtain ⟨u,hu⟩ : ∃ u,ats[i + 1]? = some u:=⟨_,List.getElem?_eq_getElem (by rw [hal.out]; omega)⟩
       obtain ⟨g4,rfl,-,c1⟩:=hcB.out wx hf7 i t ht
       obtain ⟨g5,e5,-,c2⟩:=hcB.out wx hf7 (i + 1) u hu
       injection e5 with e5
       injection e5 with e5
       subst e5
       have hw1 : IntKind.i64.wrap (((i + 1 : Nat) : Int) - 1) = (i : Int):=by rw [show ((i + 1 : Nat) : Int) - 1 = (i : Int) by omega]; exact IntWalk.i64_in _ (by omega)
       have z0 : (0 : Int) ≤ (i : Int):=Int.natCast_nonneg _
       have z1 : (i : Int) < (m : Int):=by omega
       have z2 : (0 : Int) ≤ ((i + 1 : Nat) : Int):=Int.natCast_nonneg _
       have z3 : ((i + 1 : Nat) : Int) < (m : Int):=by omega
       by_cases htu : t < u
       ·have dl : decide (u ≤ t) = false:=decide_eq_false (by omega)
        have hinc2 : Hid (∀ (j : Nat) (a b : Int),j < i + 1 → ats[j]? = some a → ats[j + 1]? = some b → a < b):=fun j a b hj ha hb => by
         by_cases e : j = i
         ·subst e; rw [ht] at ha; rw [hu] at hb; injection ha with ha; injection hb with hb; omega
         ·exact hinc.out j a b (by omega) ha hb
        replace ht:=Lib.hid ht
        replace hu:=Lib.hid hu
        go_wp2_with fail
        go_quiet (fail)
        go_wp2_with fail
        go_roundg (kx - 1)
        case measure => omega
        case rel => exact ⟨i + 1,by go_num,by omega,by omega,hf7.drewN _,hinc2⟩
       ·have dl : decide (u ≤ t) = true:=decide_eq_true (by omega)
        have hri:=Lib.hid (rises_false ht hu htu)
        replace ht:=Lib.hid ht
        replace hu:=Lib.hid hu
        go_wp2_with fail
        go_quiet (fail)
        have hSx6:=hSv.fr (hf7.drewN nq)
        have hFx6:=hFv.trans (hf7.drewN nq)
        have hS9 : Cel2 (wx.drewN nq) (nb + 1) (.int .i64 0) (.slice none 0 0):=hSx6
        have hS10:=Lib.hid ((hS9.set0 (.int .i64 0)).set1 (.slice none 0 0))
        have hfx10 : Hid (Fx (· = nb + 1) (wx.drewN nq) ((((wx.drewN nq)).setCell ⟨nb + 1,0,none⟩ (.int .i64 0)).setCell ⟨nb + 1,1,none⟩ (.slice none 0 0))):=Fx.setCell (p:=(· = nb + 1)) (q:=⟨nb + 1,1,none⟩) (Fx.setCell (p:=(· = nb + 1)) (q:=⟨nb + 1,0,none⟩) (Fx.refl _ (wx.drewN nq)) (.inl rfl) _) (.inl rfl) _
        have hfw10 : Hid (Fr w ((((wx.drewN nq)).setCell ⟨nb + 1,0,none⟩ (.int .i64 0)).setCell ⟨nb + 1,1,none⟩ (.slice none 0 0))):=((Fx.of_fr (hFx6)).trans hfx10.out).toFr (fun k hk e => by have e : k = nb + 1:=e; have:=hnb.out; omega)
        have hEE:=Lib.hid (show prsE N A v0 vs = 6 from (by rw [hPE9.out,if_pos hri.out]))
        have x1:=(hS9.set0 (.int .i64 0)).b
        have x2:=(hS9.set0 (.int .i64 0)).fb
        obtain ⟨b0,b1,e0,e1⟩:=hS9
        go_wp2_with fail
        have q0:=hS10.out.a
        have q1:=hS10.out.b
        refine bodyPost_ret (v:=.tuple #[.agg #[.int .i64 0,.slice none 0 0],.int .i64 6]) (by simp [results,Tryz.results16,go_sem,q0,q1]) rfl ?_
        exact PsgRet.err hEE.out (by decide) hfw10.out
      ·have hdI : decide (((i + 1 : Nat) : Int) < (m : Int)) = false:=decide_eq_false (by omega)
       have hdI2 : decide ((i + 1 : Nat) < m) = false:=decide_eq_false (by omega)
       have hri : risesB ats = true:=rises_true fun j a b hj ha hb => hinc.out j a b (by have:=hal.out; omega) ha hb
       replace hPE9 : Hid _:=(hPE9.out.trans (if_neg (by rw [hri]; decide)))
       replace hri:=Lib.hid hri
       go_wp2_with fail
       have hf8 : Fr W5 wx:=hf6.trans hf7
       have hOwx:=Lib.hid (hOw.fr hf8)
       have hO8:=Lib.hid (hO5.out.fr hf8)
       have hFx:=Lib.hid (hF5.trans hf8)
       have hgo9 : gO < W5.heap.size:=hOw.out.2.1
       clear di
       go_loopg [20] m (fun k s20 wr => ∃ i : Nat,s20 = .int .i64 i ∧ i + k = m ∧ Fx (· = gO) wx wr ∧ Hid (OwnI wr gO 0 (cntT pcs (ats.map Int.toNat) d i)) ∧ Hid (∀ (j : Nat) (p : Pc),j < i → pcs[j]? = some p → p.k ≤ 1000000000))
       case atStart => exact ⟨0,rfl,by omega,Fx.refl _ _,hOwx.out,fun j p h => by omega⟩
       case round =>
        clear hOwx
        obtain ⟨i,rfl,hik5,hfx,hOi,hsm⟩:=hrel
        obtain ⟨wy,rfl⟩ : ∃ wy : World,wy = wr:=⟨_,rfl⟩
        obtain ⟨ky,rfl⟩ : ∃ ky : Nat,ky = gk:=⟨_,rfl⟩
        by_cases hi : i < m
        ·have hdI : decide (i < m) = true:=decide_eq_true hi
         obtain ⟨p,hp⟩ : ∃ p,pcs[i]? = some p:=⟨_,List.getElem?_eq_getElem (by rw [hpl.out]; exact hi)⟩
         obtain ⟨t,ht0⟩ : ∃ t : Nat,ats[i]? = some (t : Int):=by
          obtain ⟨t,ht⟩ : ∃ t,ats[i]? = some t:=⟨_,List.getElem?_eq_getElem (by rw [hal.out]; exact hi)⟩
          obtain ⟨t0,rfl⟩:=Int.eq_ofNat_of_zero_le (hat0.out i t ht)
          exact ⟨t0,ht⟩
         have ht : (ats.map Int.toNat)[i]? = some t:=by rw [List.getElem?_map,ht0]; rfl
         have htd : t < d:=by have:=(hatr.out i t ht0).2; omega
         obtain ⟨k1,ks⟩:=hki.out i p hp
         have hcs : cntT pcs (ats.map Int.toNat) d (i + 1) = (cntT pcs (ats.map Int.toNat) d i).set t p.val:=by rw [cntT,hp,ht]
         obtain ⟨gA4,rfl,hgA,c0⟩:=hcA.out wx hf7 i p hp
         obtain ⟨g4,rfl,hgB,a4⟩:=hcB.out wx hf7 i t ht0
         replace c0:=hfx.keep c0 (fun e => by have e : gA4 = gO:=e; omega)
         replace a4:=hfx.keep a4 (fun e => by have e : g4 = gO:=e; omega)
         have a5:=hfx.keep hO8.out.b (fun e => hgo3 (by have e : ob = gO:=e; exact e.symm))
         obtain ⟨z,hz⟩ : ∃ z,(cntT pcs (ats.map Int.toNat) d i)[t]? = some z:=⟨_,List.getElem?_eq_getElem (by rw [cntT_len]; exact htd)⟩
         obtain ⟨x1,x2⟩:=hOi.out.2.2 t z hz
         rw [Nat.zero_add] at x1 x2
         have hsm2 : Hid (p.k ≤ 1000000000 → ∀ (j : Nat) (q : Pc),j < i + 1 → pcs[j]? = some q → q.k ≤ 1000000000):=fun hpk j q hj hq => by
          by_cases e : j = i
          ·subst e; rw [hp] at hq; injection hq with hq; rw [← hq]; exact hpk
          ·exact hsm.out j q (by omega) hq
         have hbg:=Lib.hid (fun h : ¬ p.k ≤ 1000000000 => all_big hp h)
         obtain ⟨hv1,hv2⟩:=pval_fit k1
         have hvs:=pval_size ks k1
         obtain ⟨pv,hpv⟩ : ∃ pv,pv = p.val:=⟨_,rfl⟩
         obtain ⟨pk,hpk⟩ : ∃ pk,pk = p.k:=⟨_,rfl⟩
         rw [← hpv] at hv1 hv2 hvs hcs c0
         rw [← hpk] at hv1 hv2 hbg hsm2
         have hGb:=Lib.hid (fun W => R2Small_big pv W (by omega))
         have hFy : Fr w wy:=((Fx.of_fr hFx.out).trans hfx).toFr (fun k hk e => by have e : k = gO:=e; have:=hFr.size; omega)
         have hSy : Cel2 wy (nb + 1) (.int .i64 0) (.slice none 0 0):=((hS1.out.fr f15.out).fr hf8).fx hfx (fun e => by have e : nb + 1 = gO:=e; have:=(hS1.out.fr hf2).lt; omega)
         obtain ⟨ptx,hptx⟩ : ∃ ptx,ptx = tx pv:=⟨_,rfl⟩
         replace hpk:=Lib.hid hpk
         replace hpv:=Lib.hid hpv
         replace hp:=Lib.hid hp
         replace ht:=Lib.hid ht
         replace ht0:=Lib.hid ht0
         replace hz:=Lib.hid hz
         have z0 : (0 : Int) ≤ (i : Int):=Int.natCast_nonneg _
         have z1 : (i : Int) < (m : Int):=by omega
         have z2 : (0 : Int) ≤ (t : Int):=Int.natCast_nonneg _
         have z3 : (t : Int) < (d : Int):=by omega
         clear ks k1 hvs
         by_cases hkb : pk ≤ 1000000000
         ·obtain ⟨hfb,hsv⟩:=hv1 hkb
          have hsm3:=Lib.hid (hsm2.out hkb)
          have hGm:=Lib.hid (fun W => R2Small pv hsv W)
          have hFt:=Lib.hid (fun W => R2Fits pv (by unfold Sm at hsv; omega) (by unfold Sm at hsv; omega) W)
          rw [hfb] at hFt
          rw [← hptx] at hGm c0
          replace hptx:=Lib.hid hptx
          clear hGb hv1 hv2 hsv hfb
          go_wp2_with fail
          refine (hGm.out _).mono ?_
          rintro e wA ⟨rfl,rfl⟩
          go_wp2_with fail
          refine (hFt.out _).mono ?_
          rintro e wA ⟨rfl,rfl⟩
          have hfy : Fr wy wy:=Fr.refl wy
          obtain ⟨wA,rfl⟩ : ∃ wA : World,wA = wy:=⟨_,rfl⟩
          have bx:=x1
          have bf:=x2
          have hOA:=hOi
          have hS0:=Lib.hid (fun W' (hW' : Fr wA W') => (⟨hW'.keep a5,hW'.keep a4⟩ : W'.cell? ⟨ob,1,none⟩ = some (.slice (some ⟨gO,0,none⟩) d d) ∧ W'.cell? ⟨g4,i,none⟩ = some (.int .i64 t)))
          have hd8 : Fr wA wA.drew:=(Fr.refl wA).drew
          clear a4 a5 x1 x2 c0
          go_wp2_with fail
          refine wp_region_U (S:=fun W' => W'.cell? ⟨ob,1,none⟩ = some (.slice (some ⟨gO,0,none⟩) d d) ∧ W'.cell? ⟨g4,i,none⟩ = some (.int .i64 t)) 8 (by kernel_rfl) (hS0.out _ hd8) (fun hHeld => ?_)
          refine uT (v:=?_) 0 rfl (by kernel_rfl) (.inl ⟨by rfl, ?_⟩) (by assumption) ?_
          rotate_left
          ·(intro w hSw; (try dsimp only at hSw); go_simp; try (with_reducible rfl))
          change wpAnyU _ _ _ _ _ _ _ _ (Act.put _ (some 133) _) _
          simp only [Act.put,lsT,ls0,lsS]
          refine uT (v:=?_) 1 rfl (by kernel_rfl) (.inl ⟨by rfl, ?_⟩) (by assumption) ?_
          rotate_left
          ·(intro w hSw; (try dsimp only at hSw); go_simp; try (with_reducible rfl))
          change wpAnyU _ _ _ _ _ _ _ _ (Act.put _ (some 134) _) _
          simp only [Act.put,lsT,ls0,lsS]
          refine uT (v:=?_) 2 rfl (by kernel_rfl) (.inl ⟨by rfl, ?_⟩) (by assumption) ?_
          rotate_left
          ·(intro w hSw; (try dsimp only at hSw); go_simp; try (with_reducible rfl))
          change wpAnyU _ _ _ _ _ _ _ _ (Act.put _ (some 135) _) _
          simp only [Act.put,lsT,ls0,lsS]
          refine uT (v:=?_) 3 rfl (by kernel_rfl) (.inl ⟨by rfl, ?_⟩) (by assumption) ?_
          rotate_left
          ·(intro w hSw; (try dsimp only at hSw); go_simp; try (with_reducible rfl))
          change wpAnyU _ _ _ _ _ _ _ _ (Act.put _ (some 136) _) _
          simp only [Act.put,lsT,ls0,lsS]
          refine uT (v:=?_) 4 rfl (by kernel_rfl) (.inl ⟨by rfl, ?_⟩) (by assumption) ?_
          rotate_left
          ·(intro w hSw; (try dsimp only at hSw); go_simp; try (with_reducible rfl))
          change wpAnyU _ _ _ _ _ _ _ _ (Act.put _ (some 137) _) _
          simp only [Act.put,lsT,ls0,lsS]
          refine uT (v:=?_) 5 rfl (by kernel_rfl) (.inl ⟨by rfl, ?_⟩) (by assumption) ?_
          rotate_left
          ·(intro w hSw; (try dsimp only at hSw); go_simp; try (with_reducible rfl))
          change wpAnyU _ _ _ _ _ _ _ _ (Act.put _ (some 138) _) _
          simp only [Act.put,lsT,ls0,lsS]
          refine uT (v:=?_) 6 rfl (by kernel_rfl) (.inl ⟨by rfl, ?_⟩) (by assumption) ?_
          rotate_left
          ·(intro w hSw; (try dsimp only at hSw); go_simp; try (with_reducible rfl))
          change wpAnyU _ _ _ _ _ _ _ _ (Act.put _ (some 139) _) _
          simp only [Act.put,lsT,ls0,lsS]
          refine uT (v:=?_) 7 rfl (by kernel_rfl) (.inl ⟨by rfl, ?_⟩) (by assumption) ?_
          rotate_left
          ·(intro w hSw; (try dsimp only at hSw); go_simp; try (with_reducible rfl))
          change wpAnyU _ _ _ _ _ _ _ _ (Act.put _ (some 140) _) _
          simp only [Act.put,lsT,ls0,lsS]
          have y1:=hd8.keep bx
          have y2:=hd8.keepf bx bf
          clear hHeld
          refine wpAnyU_ready (rs:=[8]) (by kernel_rfl) (by simp) ?_
          refine AllReadyU.last rfl (by kernel_rfl) (by kernel_rfl) (fun K hK => ?_)
          go_simp
          refine hK.out _ _ ?_
          clear hK K
          have hO9:=(hOA.out.fr hd8).set (k:=t) (by rw [cntT_len]; exact htd) (pv)
          rw [Nat.zero_add] at hO9
          have hfx9 : Fx (· = gO) wx (wA.drew.setCell ⟨gO,t,none⟩ (.int .i64 (pv))):=((hfx.fr hfy).fr hd8).setCell (q:=⟨gO,t,none⟩) (.inl rfl) _
          replace hO9:=Lib.hid hO9
          go_wp2_with fail
          go_roundg (ky - 1)
          case measure => omega
          case rel => exact ⟨i + 1,by go_num,by omega,hfx9,by show OwnI _ _ _ _; rw [hcs]; exact hO9.out,hsm3.out⟩
         ·have hbg2:=Lib.hid (hbg.out hkb)
          have hfb:=hv2 hkb
          rw [← hptx] at hGb c0
          replace hptx:=Lib.hid hptx
          go_wp2_with fail
          refine (hGb.out _).mono ?_
          rintro e wA ⟨v9,b9,rfl,hv3,hv4,hv5,rfl⟩
          clear a4 a5 x1 x2 c0 hv1 hv2
          cases b9 with
          | false =>
            clear hv5
            have hS9 : Cel2 wy (nb + 1) (.int .i64 0) (.slice none 0 0):=hSy
            have hS10:=Lib.hid ((hS9.set0 (.int .i64 0)).set1 (.slice none 0 0))
            have hfx10 : Hid (Fx (· = nb + 1) wy (((wy).setCell ⟨nb + 1,0,none⟩ (.int .i64 0)).setCell ⟨nb + 1,1,none⟩ (.slice none 0 0))):=Fx.setCell (p:=(· = nb + 1)) (q:=⟨nb + 1,1,none⟩) (Fx.setCell (p:=(· = nb + 1)) (q:=⟨nb + 1,0,none⟩) (Fx.refl _ wy) (.inl rfl) _) (.inl rfl) _
            have hfw10 : Hid (Fr w (((wy).setCell ⟨nb + 1,0,none⟩ (.int .i64 0)).setCell ⟨nb + 1,1,none⟩ (.slice none 0 0))):=((Fx.of_fr (hFy)).trans hfx10.out).toFr (fun k hk e => by have e : k = nb + 1:=e; have:=hnb.out; omega)
            have hEE:=Lib.hid (show prsE N A v0 vs = 4 from (by rw [hPE9.out,if_pos hbg2.out]))
            have x1:=(hS9.set0 (.int .i64 0)).b
            have x2:=(hS9.set0 (.int .i64 0)).fb
            obtain ⟨b0,b1,e0,e1⟩:=hS9
            go_wp2_with fail
            have q0:=hS10.out.a
            have q1:=hS10.out.b
            refine bodyPost_ret (v:=.tuple #[.agg #[.int .i64 0,.slice none 0 0],.int .i64 4]) (by simp [results,Tryz.results16,go_sem,q0,q1]) rfl ?_
            exact PsgRet.err hEE.out (by decide) hfw10.out
          | true =>
            obtain rfl:=hv5 rfl
            have hFt:=Lib.hid (fun W => R2Fits v9 hv3 hv4 W)
            rw [hfb] at hFt
            clear hv3 hv4 hv5 hfb
            go_wp2_with fail
            refine (hFt.out _).mono ?_
            rintro e wA ⟨rfl,rfl⟩
            have hS9 : Cel2 wy (nb + 1) (.int .i64 0) (.slice none 0 0):=hSy
            have hS10:=Lib.hid ((hS9.set0 (.int .i64 0)).set1 (.slice none 0 0))
            have hfx10 : Hid (Fx (· = nb + 1) wy (((wy).setCell ⟨nb + 1,0,none⟩ (.int .i64 0)).setCell ⟨nb + 1,1,none⟩ (.slice none 0 0))):=Fx.setCell (p:=(· = nb + 1)) (q:=⟨nb + 1,1,none⟩) (Fx.setCell (p:=(· = nb + 1)) (q:=⟨nb + 1,0,none⟩) (Fx.refl _ wy) (.inl rfl) _) (.inl rfl) _
            have hfw10 : Hid (Fr w (((wy).setCell ⟨nb + 1,0,none⟩ (.int .i64 0)).setCell ⟨nb + 1,1,none⟩ (.slice none 0 0))):=((Fx.of_fr (hFy)).trans hfx10.out).toFr (fun k hk e => by have e : k = nb + 1:=e; have:=hnb.out; omega)
            have hEE:=Lib.hid (show prsE N A v0 vs = 4 from (by rw [hPE9.out,if_pos hbg2.out]))
            have x1:=(hS9.set0 (.int .i64 0)).b
            have x2:=(hS9.set0 (.int .i64 0)).fb
            obtain ⟨b0,b1,e0,e1⟩:=hS9
            go_wp2_with fail
            have q0:=hS10.out.a
            have q1:=hS10.out.b
            refine bodyPost_ret (v:=.tuple #[.agg #[.int .i64 0,.slice none 0 0],.int .i64 4]) (by simp [results,Tryz.results16,go_sem,q0,q1]) rfl ?_
            exact PsgRet.err hEE.out (by decide) hfw10.out
        ·have hdI : decide (i < m) = false:=decide_eq_false hi
         obtain rfl : m = i:=by omega
         have a5:=hfx.keep hO8.out.a (fun e => hgo3 (by have e : ob = gO:=e; exact e.symm))
         have a6:=hfx.keep hO8.out.b (fun e => hgo3 (by have e : ob = gO:=e; exact e.symm))
         have hSx : Cel2 wx (nb + 1) (.int .i64 0) (.slice none 0 0):=(hS1.out.fr f15.out).fr hf8
         have hS9:=hSx.fx hfx (fun e => by have e : nb + 1 = gO:=e; have:=(hS1.out.fr hf2).lt; omega)
         have hS10:=Lib.hid ((hS9.set0 (.int .i64 i0)).set1 (.slice (some ⟨gO,0,none⟩) d d))
         have hfx10 : Hid (Fx (· = nb + 1) wy ((wy.setCell ⟨nb + 1,0,none⟩ (.int .i64 i0)).setCell ⟨nb + 1,1,none⟩ (.slice (some ⟨gO,0,none⟩) d d))):=Fx.setCell (p:=(· = nb + 1)) (q:=⟨nb + 1,1,none⟩) (Fx.setCell (p:=(· = nb + 1)) (q:=⟨nb + 1,0,none⟩) (Fx.refl _ wy) (.inl rfl) _) (.inl rfl) _
         have x1:=(hS9.set0 (.int .i64 i0)).b
         have x2:=(hS9.set0 (.int .i64 i0)).fb
         have hlt9 : nb + 1 < wo.heap.size:=(hS1.out.fr hf2).lt
         obtain ⟨b0,b1,e0,e1⟩:=hS9
         go_wp2_with fail
         have q0:=hS10.out.a
         have q1:=hS10.out.b
         refine bodyPost_ret (v:=.tuple #[.agg #[.int .i64 i0,.slice (some ⟨gO,0,none⟩) d d],.int .i64 0]) (by simp [results,Tryz.results16,go_sem,q0,q1]) rfl ?_
         have hE0 : prsE N A v0 vs = 0:=by
          rw [hPE9.out,if_neg (by rw [all_small fun j p hj => hsm.out j p (by have:=(List.getElem?_eq_some_iff.1 hj).1; have:=hpl.out; omega) hj]; decide)]
         refine ⟨fun _ => ?_,fun h => absurd hE0 h⟩
         rw [← hi0.out,hpq.out,hatq.out,← hm.out]
         exact ⟨gO,d,rfl,hOi.out.el.fx hfx10.out (fun e => by have e : gO = nb + 1:=e; omega),cntT_len _ _ _ _,by
          have h1 : Fx (fun k => k = gO) w wy:=(Fx.of_fr hFx.out).trans hfx
          have h2 : Fr w wy:=h1.toFr (fun k hk e => by have e : k = gO:=e; have:=hFr.size; omega)
          exact ((Fx.of_fr h2).trans hfx10.out).toFr (fun k hk e => by have e : k = nb + 1:=e; have:=hnb.out; omega)⟩
end Go.Proofs.YtkjemicelmabdaaGreatDoor

/- schismalaw42.NotationParses returns true at every draft and text. -/
namespace Go.Proofs.YtkjemicelmabdaaGreatDoor
open Go.RowKit Go.Lib
attribute [local go_sem ↓] Go.wp_at_zero Go.wp_at_succ

/-- the words of a text -/
theorem words_exist (s : ByteArray) : ∃ (w0 : ByteArray) (ws : List ByteArray),joinW (w0 :: ws) = s ∧ (∀ x,x ∈ w0 :: ws → (32 : UInt8) ∉ x.data.toList ∧ x.size ≤ s.size) ∧ ws.length ≤ s.size:=by
 have key : ∀ j,j ≤ s.size → ∃ n l,WdI s j n l:=by
  intro j
  induction j with
  | zero => exact fun _ => ⟨0,_,WdI.zero s⟩
  | succ j ih =>
    intro hj
    obtain ⟨n,l,h⟩:=ih (by omega)
    by_cases hb : s[j]'(by omega) = 32
    ·exact ⟨_,_,h.blank (by omega) hb⟩
    ·obtain ⟨x,hx⟩ : ∃ x,l[n]? = some x:=⟨_,List.getElem?_eq_getElem (by rw [h.len]; omega)⟩
     exact ⟨_,_,h.byte (by omega) hb hx⟩
 obtain ⟨n,l,hl,hjn,hok,hle⟩:=key s.size (Nat.le_refl _)
 cases l with
 | nil => cases hl
 | cons w0 ws =>
   obtain rfl : ws.length = n:=by simpa using hl
   refine ⟨w0,ws, ?_,hok,hle⟩
   rw [hjn]; apply ba_ext; rw [ByteArray.data_extract,Array.toList_extract]; simp only [List.extract_eq_take_drop,List.drop_zero,Nat.sub_zero]; exact List.take_of_length_le (by rw [← Lib.size_eq]; exact Nat.le_refl _)
theorem NParse42 (N A : List Sy) (M d : Nat) (s w0 : ByteArray) (ws : List ByteArray) (aN aA : Option Addr) (cN cA : Nat) (w : World) (hG : G w) (hEr : Er w) (hmx : ∃ m,w.cell? ⟨2,0,none⟩ = some (.int .i64 m)) (hn : Nt42 w aN aA cN cA M d N A) (hs : s.size ≤ 65536)
 (hj : joinW (w0 :: ws) = s) (hb : ∀ x,x ∈ w0 :: ws → (32 : UInt8) ∉ x.data.toList ∧ x.size ≤ s.size) (hl : ws.length ≤ s.size) :
 Calls Tryz.prog 15 #[.agg #[.slice aN M cN,.slice aA d cA],.string s] w (PsgRet w N A w0 ws d):=by
 have hM:=hn.hM
 have hd:=hn.hd
 have d3:=hn.d3
 have m8:=hn.m8
 obtain ⟨hc,hsp⟩:=split_joinW w0 ws (fun x hx => (hb x hx).1)
 rw [hj] at hc hsp
 have hck:=fun W (hW : Fr w W) => (hn.fr hW).check (hG.fr hW)
 have h0:=(hb w0 List.mem_cons_self).2
 cases hi : isName w0 with
 | false => exact Parse_noname N A d M s w0 ws aN aA cN cA w hmx hs hsp hc (by omega) hi hck
 | true =>
   have h:=Parse_gen N A d s w0 ws aN aA cN cA w hG hEr hmx hn.hn hd (by omega) (by omega) hs hsp hc (by omega) (fun x hx => by have:=(hb x (List.mem_cons_of_mem _ hx)).2; omega) hi (by omega) (by rw [hM,hd]; exact hck)
   rw [hM,hd] at h
   exact h
theorem lparse42g (N A : List Sy) (M d : Nat) (s w0 : ByteArray) (ws : List ByteArray) (aN aA : Option Addr) (cN cA : Nat) (w : World) (hG : G w) (hn : Nt42 w aN aA cN cA M d N A) (hs : s.size ≤ 65536)
 (hj : joinW (w0 :: ws) = s) (hb : ∀ x,x ∈ w0 :: ws → (32 : UInt8) ∉ x.data.toList ∧ x.size ≤ s.size) :
 Calls Tryz.prog 16 #[.agg #[.slice aN M cN,.slice aA d cA],.string s] w (PsgRet w N A w0 ws d):=by
 have d3:=hn.d3
 have m8:=hn.m8
 exact lparse_gen N A d M s w0 ws aN aA cN cA w hG hn.hn hn.hd hn.hM (by omega) (by omega) hs hj (fun x hx => (hb x hx).1)

theorem infoU8 : (Tryz.prog.info? 5).map (fun i => (i.zero,i.size,i.bytes)) = some (some (.int .u8 0),1,1):=by kernel_rfl
/-- many zero bytes as a text -/
theorem conv65 {W W' : World} {b n : Nat} (h : W'.ownsRow b 5 1 (.slice (some ⟨W.heap.size,0,none⟩) n n) n (madeCells (Value.int .u8 0).cells (n * 1)).toList) (hn : 65536 < n:=by decide) : ∃ T : ByteArray,65536 < T.size ∧ ∀ V,Fr W' V → (convert 48 9 (.slice (some ⟨W.heap.size,0,none⟩) n n)).run Tryz.prog V = .ok (.string T) V:=by
 refine ⟨⟨(List.replicate n (0 : UInt8)).toArray⟩, ?_,fun V hV => ?_⟩
 ·show 65536 < (List.replicate n (0 : UInt8)).toArray.size
  rw [List.size_toArray,List.length_replicate]; exact hn
 ·have h9:=run_convert_bytes_back (P:=Tryz.prog) V 48 9 5 ⟨W.heap.size,0,none⟩ n (List.replicate n (0 : UInt8)) Tryz.underlying48 Tryz.underlying5 Tryz.underlying9 (fun j hj => by
   rw [List.length_replicate] at hj
   have h1:=h.cellAt j (by omega)
   have e : (madeCells (Value.int .u8 0).cells (n * 1)).toList = List.replicate n (.int .u8 0):=by rw [Nat.mul_one]; exact made_rep _ _
   rw [e,List.getElem?_replicate,if_pos hj] at h1
   have h2:=hV.keep h1
   have e9 : (⟨W.heap.size,0,none⟩ : Addr).add j = ⟨W.heap.size,j,none⟩:=by
    unfold Addr.add
    by_cases h0 : j = 0
    ·rw [if_pos h0,h0]
    ·rw [if_neg h0,Nat.zero_add]
   rw [e9,h2,List.getElem_replicate]; rfl)
  rw [List.length_replicate] at h9
  exact h9
set_option maxRecDepth 100000 in
set_option maxHeartbeats 40000000 in
theorem NotationParses_any (R : Int) (hR0 : 0 ≤ R) (hR1 : R ≤ 255) (L : List (List Int)) (a : Option Addr) (c : Nat) (b0 b1 b2 b3 b4 b5 b6 b7 b8 : Int) (s : ByteArray) (w : World) (hG : G w) (hEr : Er w) (hmx : ∃ m,w.cell? ⟨2,0,none⟩ = some (.int .i64 m)) (hL : TriIs w a L) (hL8 : Tri8 L) (hB8 : Tri8 [[b0,b1,b2],[b3,b4,b5],[b6,b7,b8]]) :
 Calls Tryz.prog 4 #[.agg #[.int .u8 R,.slice a L.length c,.int .i8 b0,.int .i8 b1,.int .i8 b2,.int .i8 b3,.int .i8 b4,.int .i8 b5,.int .i8 b6,.int .i8 b7,.int .i8 b8],.string s] w fun e w' => e = .returned (.bool true) ∧ Fr w w':=by
 have hk:=Lib.hid (fun W (hW : Fr w W) => known42_any W (hG.fr hW) (hEr.fr hW) (hmx.imp fun m h => hW.keep h))
 obtain ⟨d,hd⟩ : ∃ d : Nat,(d : Int) = R % 4:=⟨(R % 4).toNat,by omega⟩
 have hd3 : d ≤ 3:=by omega
 have hmk:=Lib.hid (fun W (hW : Fr w W) => Make42_any R hR0 hR1 d hd L a c b0 b1 b2 b3 b4 b5 b6 b7 b8 W (hG.fr hW) (hL.fr hW) hL8 hB8)
 have hGf:=Lib.hid (fun W (hW : Fr w W) => hG.fr hW)
 have hErf:=Lib.hid (fun W (hW : Fr w W) => hEr.fr hW)
 have hmxf:=Lib.hid (fun W (hW : Fr w W) => hmx.imp fun m h => hW.keep h)
 obtain ⟨w0,ws,hj,hb,hlw⟩:=words_exist s
 obtain ⟨l,hl⟩ : ∃ l,l = L.length:=⟨_,rfl⟩
 rw [← hl] at hmk ⊢
 replace hl:=Lib.hid hl
 replace hd:=Lib.hid hd
 replace hL8:=Lib.hid hL8
 replace hB8:=Lib.hid hB8
 replace hj:=Lib.hid hj
 replace hb:=Lib.hid hb
 clear hG hmx hL hEr
 have f1 : Fr w (w.alloc (.cells #[.int .u8 R,.slice a l c,.int .i8 b0,.int .i8 b1,.int .i8 b2,.int .i8 b3,.int .i8 b4,.int .i8 b5,.int .i8 b6,.int .i8 b7,.int .i8 b8] 27)):=(Fr.refl _).alloc _
 go_enter Tryz.func4,Tryz.ntmps4
 go_wp2_with fail
 refine (hmk.out _ f1).mono ?_
 rintro e w1 ⟨N,A,aN,cN,aA,cA,r,fine,hN,hA,hn,hf1,hfine,hr1,hr2,rfl⟩
 have f2:=f1.trans hf1
 clear f1 hf1
 obtain ⟨M,hM⟩ : ∃ M,M = N.length:=⟨_,rfl⟩
 have hAd : A.length = d:=by rw [← bare_len,hA]; unfold accsD; rw [List.length_map,List.length_range]
 have hnt:=fun (hf : nchkE N A r = 0) => nt42_of (cN:=cN) hn hN hA hd3 hL8.out hB8.out rfl hf hr1 hr2
 rw [← hM] at hnt ⊢
 rw [hAd]
 replace hM:=Lib.hid hM
 replace hAd:=Lib.hid hAd
 obtain ⟨nb,hnb⟩ : ∃ nb,nb = w1.heap.size:=⟨_,rfl⟩
 obtain ⟨W3,hW3⟩ : ∃ W3,W3 = w1.alloc (.cells #[.slice aN M cN,.slice aA d cA] 32):=⟨_,rfl⟩
 have f13 : Fr w1 W3:=by rw [hW3]; exact (Fr.refl _).alloc _
 have hC3 : Cel2 W3 nb (.slice aN M cN) (.slice aA d cA):=by rw [hW3,hnb]; exact Cel2.new _ _ _ _
 have f3:=f2.trans f13
 cases fine with
 | false =>
   clear hnt hfine hN hA hn hr1 hr2
   go_upto_region 2 with (fail)
   rw [← hW3,← hnb]
   clear hW3
   replace hnb:=Lib.hid hnb
   go_wp2_with fail
   refine (hk.out _ f3).mono ?_
   rintro e w4 ⟨rfl,hf4⟩
   go_wp2_with fail
   refine (hk.out _ (f3.trans hf4)).mono ?_
   rintro e w5 ⟨rfl,hf5⟩
   go_wp2_with fail
   go_ret
   exact ⟨rfl,(f3.trans hf4).trans hf5⟩
 | true =>
   have hN3:=(hnt (of_decide_eq_true hfine.symm)).fr f13
   clear hnt hfine hN hA hn hr1 hr2
   go_upto_region 2 with (fail)
   rw [← hW3,← hnb]
   clear hW3
   replace hnb:=Lib.hid hnb
   have n0:=hC3.a
   have n1:=hC3.b
   replace hC3:=Lib.hid hC3
   by_cases h5 : 40 < s.size
   ·have d5 : decide ((40 : Int) < (s.size : Int)) = true:=decide_eq_true (by omega)
    clear hN3
    go_wp2_with fail
    refine (hk.out _ f3).mono ?_
    rintro e w4 ⟨rfl,hf4⟩
    go_wp2_with fail
    refine (hk.out _ (f3.trans hf4)).mono ?_
    rintro e w5 ⟨rfl,hf5⟩
    go_wp2_with fail
    go_ret
    exact ⟨rfl,(f3.trans hf4).trans hf5⟩
   ·have d5 : decide ((40 : Int) < (s.size : Int)) = false:=decide_eq_false (by omega)
    have hps:=Lib.hid (fun W (hW : Fr W3 W) => NParse42 N A M d s w0 ws aN aA cN cA W (hGf.out _ (f3.trans hW)) (hErf.out _ (f3.trans hW)) (hmxf.out W (f3.trans hW)) (hN3.fr hW) (by omega) hj.out hb.out hlw)
    have hlp:=Lib.hid (fun W (hW : Fr W3 W) => lparse42g N A M d s w0 ws aN aA cN cA W (hGf.out _ (f3.trans hW)) (hN3.fr hW) (by omega) hj.out hb.out)
    have hlg:=Lib.hid (fun W (hW : Fr W3 W) (t : ByteArray) (ht : 65536 < t.size) => Parse_long d M t aN aA cN cA W ht (fun V hV => (hN3.fr (hW.trans hV)).check (hGf.out _ (f3.trans (hW.trans hV)))))
    obtain ⟨E,hE⟩ : ∃ E,E = prsE N A w0 ws:=⟨_,rfl⟩
    -- one shape for both answers
    have hps2 : Hid (∀ W,Fr W3 W → Calls Tryz.prog 15 #[.agg #[.slice aN M cN,.slice aA d cA],.string s] W fun e W' => ∃ (i : Int) (cs : List Int) (g : Option Addr) (n cc : Nat),e = .returned (.tuple #[.agg #[.int .i64 i,.slice g n cc],.int .i64 E]) ∧ El W' iv g cs ∧ cs.length = n ∧ Fr W W' ∧ (i,cs) = (if E = 0 then (symI N w0,cntT (pcsO ws) (atsN A ws) d ws.length) else (0,[])) ∧ n ≤ 1000):=fun W hW => (hps.out W hW).mono fun e W' h => by
     unfold PsgRet at h
     rw [← hE] at h
     by_cases h0 : E = 0
     ·obtain ⟨g,cc,rfl,h2,h3,h4⟩:=h.1 h0
      exact ⟨_,_,_,_,_,by rw [h0],h2,h3,h4,by rw [if_pos h0],by omega⟩
     ·obtain ⟨rfl,h4⟩:=h.2 h0
      exact ⟨0,[],none,0,0,rfl,.inl rfl,rfl,h4,by rw [if_neg h0],by omega⟩
    have hlp2 : Hid (∀ W,Fr W3 W → Calls Tryz.prog 16 #[.agg #[.slice aN M cN,.slice aA d cA],.string s] W fun e W' => ∃ (i : Int) (cs : List Int) (g : Option Addr) (n cc : Nat),e = .returned (.tuple #[.agg #[.int .i64 i,.slice g n cc],.int .i64 E]) ∧ El W' iv g cs ∧ cs.length = n ∧ Fr W W' ∧ (i,cs) = (if E = 0 then (symI N w0,cntT (pcsO ws) (atsN A ws) d ws.length) else (0,[])) ∧ n ≤ 1000):=fun W hW => (hlp.out W hW).mono fun e W' h => by
     unfold PsgRet at h
     rw [← hE] at h
     by_cases h0 : E = 0
     ·obtain ⟨g,cc,rfl,h2,h3,h4⟩:=h.1 h0
      exact ⟨_,_,_,_,_,by rw [h0],h2,h3,h4,by rw [if_pos h0],by omega⟩
     ·obtain ⟨rfl,h4⟩:=h.2 h0
      exact ⟨0,[],none,0,0,rfl,.inl rfl,rfl,h4,by rw [if_neg h0],by omega⟩
    replace hE:=Lib.hid hE
    clear hps hlp hN3
    go_wp2_with fail
    refine (hk.out _ f3).mono ?_
    rintro e w4 ⟨rfl,hf4⟩
    replace n0:=hf4.keep n0
    replace n1:=hf4.keep n1
    go_wp2_with fail
    refine (hps2.out _ hf4).mono ?_
    rintro e w5 ⟨i1,cs1,g1,m1,cc1,rfl,hel1,hl1,hf5,hic1,hm1⟩
    replace n0:=hf5.keep n0
    replace n1:=hf5.keep n1
    have hf35:=hf4.trans hf5
    obtain ⟨xb,hxb⟩ : ∃ xb,xb = w5.heap.size:=⟨_,rfl⟩
    obtain ⟨W6,hW6⟩ : ∃ W6,W6 = w5.alloc (.cells #[.int .i64 i1,.slice g1 m1 cc1] 37):=⟨_,rfl⟩
    have f56 : Fr w5 W6:=by rw [hW6]; exact (Fr.refl _).alloc _
    have hX6 : Cel2 W6 xb (.int .i64 i1) (.slice g1 m1 cc1):=by rw [hW6,hxb]; exact Cel2.new _ _ _ _
    replace hic1:=Lib.hid hic1
    replace hl1:=Lib.hid hl1
    go_upto_region 5 with (fail)
    rw [← hW6,← hxb]
    clear hW6
    replace hxb:=Lib.hid hxb
    replace n0:=f56.keep n0
    replace n1:=f56.keep n1
    have hf36:=hf35.trans f56
    have hel6:=Lib.hid (hel1.fr f56)
    replace hX6:=Lib.hid hX6
    go_wp2_with fail
    refine (hlp2.out _ hf36).mono ?_
    rintro e w7 ⟨i2,cs2,g2,m2,cc2,rfl,hel2,hl2,hf7,hic2,hm2⟩
    replace n0:=hf7.keep n0
    replace n1:=hf7.keep n1
    have hf37:=hf36.trans hf7
    obtain ⟨yb,hyb⟩ : ∃ yb,yb = w7.heap.size:=⟨_,rfl⟩
    obtain ⟨W8,hW8⟩ : ∃ W8,W8 = w7.alloc (.cells #[.int .i64 i2,.slice g2 m2 cc2] 37):=⟨_,rfl⟩
    have f78 : Fr w7 W8:=by rw [hW8]; exact (Fr.refl _).alloc _
    have hY8 : Cel2 W8 yb (.int .i64 i2) (.slice g2 m2 cc2):=by rw [hW8,hyb]; exact Cel2.new _ _ _ _
    have he12:=hic1.out.trans hic2.symm
    obtain rfl : i1 = i2:=congrArg Prod.fst he12
    obtain rfl : cs1 = cs2:=congrArg Prod.snd he12
    replace hic2:=Lib.hid hic2
    replace hl2:=Lib.hid hl2
    clear he12
    go_upto_region 6 with (fail)
    rw [← hW8,← hyb]
    clear hW8
    replace hyb:=Lib.hid hyb
    replace n0:=f78.keep n0
    replace n1:=f78.keep n1
    have hf38:=hf37.trans f78
    have hX8:=Lib.hid ((hX6.out.fr hf7).fr f78)
    have hel8:=Lib.hid ((hel6.out.fr hf7).fr f78)
    have hem8:=Lib.hid (hel2.fr f78)
    replace hY8:=Lib.hid hY8
    obtain ⟨i5,ci,cz0,cz1,cz2⟩:=info_parts infoU8
    have hS0:=Lib.hid (fun W' (hW' : Fr W8 W') => (⟨hW'.keep n0,hW'.keep n1⟩ : W'.cell? ⟨nb,0,none⟩ = some (.slice aN M cN) ∧ W'.cell? ⟨nb,1,none⟩ = some (.slice aA d cA)))
    have hlg8:=Lib.hid (fun W (hW : Fr W8 W) => hlg.out W (hf38.trans hW))
    replace hlg:=hlg8
    go_cut [12] from 42 to 49 (fun s12 wc => s12 = .int .i64 16 ∧ Fr W8 wc)
    case first =>
     clear hic1 hic2 hl1 hl2 hX6 hX8 hY8 hel6 hel8 hem8 hel1 hel2 hps2 hlp2 hk hGf hErf hmxf hmk hj hb
     have hd0 : Fr W8 W8.drew:=(Fr.refl W8).drew
     refine wp_region_U (S:=fun W' => W'.cell? ⟨nb,0,none⟩ = some (.slice aN M cN) ∧ W'.cell? ⟨nb,1,none⟩ = some (.slice aA d cA)) 9 (by kernel_rfl) (hS0.out _ hd0) (fun hHeld => ?_)
     refine uT (v:=?_) 0 rfl (by kernel_rfl) (.inl ⟨by rfl, ?_⟩) (by assumption) ?_
     rotate_left
     ·(intro w hSw; (try dsimp only at hSw); go_simp; try (with_reducible rfl))
     change wpAnyU _ _ _ _ _ _ _ _ (Act.put _ (some 43) _) _
     simp only [Act.put,lsT,ls0,lsS]
     obtain ⟨wd,hwd⟩ : ∃ wd,wd = W8.drew:=⟨_,rfl⟩
     rw [← hwd] at hd0 hHeld ⊢
     clear hwd
     refine wpAnyU_ready (rs:=[1,7]) (by kernel_rfl) (by simp) ?_
     refine AllReadyU.cons rfl (fun K hK => ?_) (AllReadyU.cons rfl (fun K hK => ?_) AllReadyU.nil)
     ·
      refine step_make_full _ rfl _ _ 48 rfl wd.heap.size 5 i5 _ 1 Tryz.underlying48 ci cz0 cz1 .i64 .i64 65537 65537 65537 (by simp [Act.eval]) (by simp [Act.eval]) rfl rfl (by rw [cz2]; omega) (by unfold maxLen; omega) (Nat.le_refl _) ?_
      intro wa1 hownM hgrM
      have hfM : Fr wd wa1:=(Fr.refl _).grown hgrM (fun k e => by cases e)
      have ha1 : Fr W8 wa1:=Fr.trans hd0 hfM
      obtain ⟨T,hT,hcv0⟩:=conv65 hownM
      replace hcv0:=Lib.hid hcv0
      (try replace hAl:=hAl.fr hfM)
      refine hK.out _ _ (hS0.out _ ha1) (fun hHeld => ?_)
      clear hK K hownM hgrM
      try simp only [Act.put,lsT]
      have hfV : Fr wa1 wa1:=Fr.refl _
      refine wpAnyU_ready (rs:=[2,7]) (by kernel_rfl) (by simp) ?_
      refine AllReadyU.cons rfl (fun K hK => ?_) (AllReadyU.cons rfl (fun K hK => ?_) AllReadyU.nil)
      ·
       have hcv:=hcv0.out wa1 (Fr.refl _)
       go_simp
       refine hK.out _ _ (hS0.out _ ha1) (fun hHeld => ?_)
       clear hK K hcv
       try simp only [Act.put,lsT,ls0,lsS]
       refine wpAnyU_ready (rs:=[3,7]) (by kernel_rfl) (by simp) ?_
       refine AllReadyU.cons rfl (fun K hK => ?_) (AllReadyU.cons rfl (fun K hK => ?_) AllReadyU.nil)
       ·
        go_simp
        refine (hlg.out _ ha1 T hT).mono ?_
        rintro e wb3 ⟨rfl,hfC⟩
        have hb3 : Fr W8 wb3:=Fr.trans ha1 hfC
        (try replace hAl:=hAl.fr hfC)
        go_wp2_with fail
        refine hK.out _ _ (hS0.out _ hb3) (fun hHeld => ?_)
        clear hK K hfC
        try simp only [Act.put,lsT,ls0,lsS]
        refine uT (v:=?_) 4 rfl (by kernel_rfl) (.inl ⟨by rfl, ?_⟩) (by assumption) ?_
        rotate_left
        ·(intro w hSw; (try dsimp only at hSw); go_simp; try (with_reducible rfl))
        change wpAnyU _ _ _ _ _ _ _ _ (Act.put _ (some 42) _) _
        simp only [Act.put,lsT,ls0,lsS]
        refine uT (v:=?_) 5 rfl (by kernel_rfl) (.inl ⟨by rfl, ?_⟩) (by assumption) ?_
        rotate_left
        ·(intro w hSw; (try dsimp only at hSw); go_simp; try (with_reducible rfl))
        change wpAnyU _ _ _ _ _ _ _ _ (Act.put _ (some 47) _) _
        simp only [Act.put,lsT,ls0,lsS]
        refine uT (v:=?_) 6 rfl (by kernel_rfl) (.inl ⟨by rfl, ?_⟩) (by assumption) ?_
        rotate_left
        ·(intro w hSw; (try dsimp only at hSw); go_simp; try (with_reducible rfl))
        change wpAnyU _ _ _ _ _ _ _ _ (Act.put _ (some 48) _) _
        simp only [Act.put,lsT,ls0,lsS]
        refine wpAnyU_ready (rs:=[7]) (by kernel_rfl) (by simp) ?_
        refine AllReadyU.cons rfl (fun K hK => ?_) AllReadyU.nil
        go_simp
        refine hK.out _ _ (hS0.out _ (Fr.alloc hb3 _)) (fun hHeld => ?_)
        clear hK K
        try simp only [Act.put,lsT,ls0,lsS]
        obtain ⟨wc7,hW⟩ : ∃ W,W = wb3.alloc (.cells #[.int .i64 0,.slice none 0 0] 37):=⟨_,rfl⟩
        have hfA : Fr wb3 wc7:=by rw [hW]; exact (Fr.refl _).alloc _
        have hc7 : Fr W8 wc7:=Fr.trans hb3 hfA
        obtain ⟨ob,hob⟩ : ∃ ob,ob = wb3.heap.size:=⟨_,rfl⟩
        have hAl : Cel2 wc7 ob (.int .i64 0) (.slice none 0 0):=by rw [hW,hob]; exact Cel2.new _ _ _ _
        have hA1 : W8.heap.size ≤ ob:=by rw [hob]; exact Fr.size hb3
        rw [← hob,← hW]
        rw [← hW] at hHeld
        clear hW
        replace hob:=Lib.hid hob
        have hfx9 : Fx (· = ob) wc7 ((wc7.setCell ⟨ob,0,none⟩ (.int .i64 0)).setCell ⟨ob,1,none⟩ (.slice none 0 0)):=Fx.setCell (p:=(· = ob)) (q:=⟨ob,1,none⟩) (Fx.setCell (p:=(· = ob)) (q:=⟨ob,0,none⟩) (Fx.refl _ wc7) (.inl rfl) _) (.inl rfl) _
        have hfz9:=Lib.hid (((Fx.of_fr hc7).trans hfx9).toFr (fun k hk e => by have e : k = ob:=e; omega))
        have x1:=(hAl.set0 (.int .i64 0)).b
        have x2:=(hAl.set0 (.int .i64 0)).fb
        obtain ⟨p0,p1,p2,p3⟩:=hAl
        refine wpAnyU_ready (rs:=[8]) (by kernel_rfl) (by simp) ?_
        refine AllReadyU.cons rfl (fun K hK => ?_) AllReadyU.nil
        go_simp
        refine hK.out _ _ (hS0.out _ hfz9.out) (fun hHeld => ?_)
        clear hK K p0 p1 p2 p3 x1 x2 hHeld
        try simp only [Act.put,lsT,ls0,lsS]
        refine wpAnyU_ready (rs:=[9]) (by kernel_rfl) (by simp) ?_
        refine AllReadyU.last rfl (by kernel_rfl) (by kernel_rfl) (fun K hK => ?_)
        go_simp
        refine hK.out _ _ ?_
        clear hK K
        go_wp2_with fail
        go_meet
        case rel => exact ⟨rfl,hfz9.out⟩
       ·
        go_simp
        refine hK.out _ _ (hS0.out _ (Fr.alloc ha1 _)) (fun hHeld => ?_)
        clear hK K
        try simp only [Act.put,lsT,ls0,lsS]
        obtain ⟨wb7,hW⟩ : ∃ W,W = wa1.alloc (.cells #[.int .i64 0,.slice none 0 0] 37):=⟨_,rfl⟩
        have hfA : Fr wa1 wb7:=by rw [hW]; exact (Fr.refl _).alloc _
        have hb7 : Fr W8 wb7:=Fr.trans ha1 hfA
        obtain ⟨ob,hob⟩ : ∃ ob,ob = wa1.heap.size:=⟨_,rfl⟩
        have hAl : Cel2 wb7 ob (.int .i64 0) (.slice none 0 0):=by rw [hW,hob]; exact Cel2.new _ _ _ _
        have hA1 : W8.heap.size ≤ ob:=by rw [hob]; exact Fr.size ha1
        rw [← hob,← hW]
        rw [← hW] at hHeld
        clear hW
        replace hob:=Lib.hid hob
        refine wpAnyU_ready (rs:=[3]) (by kernel_rfl) (by simp) ?_
        refine AllReadyU.cons rfl (fun K hK => ?_) AllReadyU.nil
        go_simp
        refine (hlg.out _ hb7 T hT).mono ?_
        rintro e wc3 ⟨rfl,hfC⟩
        have hc3 : Fr W8 wc3:=Fr.trans hb7 hfC
        (try replace hAl:=hAl.fr hfC)
        go_wp2_with fail
        refine hK.out _ _ (hS0.out _ hc3) (fun hHeld => ?_)
        clear hK K hfC
        try simp only [Act.put,lsT,ls0,lsS]
        refine uT (v:=?_) 4 rfl (by kernel_rfl) (.inl ⟨by rfl, ?_⟩) (by assumption) ?_
        rotate_left
        ·(intro w hSw; (try dsimp only at hSw); go_simp; try (with_reducible rfl))
        change wpAnyU _ _ _ _ _ _ _ _ (Act.put _ (some 42) _) _
        simp only [Act.put,lsT,ls0,lsS]
        refine uT (v:=?_) 5 rfl (by kernel_rfl) (.inl ⟨by rfl, ?_⟩) (by assumption) ?_
        rotate_left
        ·(intro w hSw; (try dsimp only at hSw); go_simp; try (with_reducible rfl))
        change wpAnyU _ _ _ _ _ _ _ _ (Act.put _ (some 47) _) _
        simp only [Act.put,lsT,ls0,lsS]
        refine uT (v:=?_) 6 rfl (by kernel_rfl) (.inl ⟨by rfl, ?_⟩) (by assumption) ?_
        rotate_left
        ·(intro w hSw; (try dsimp only at hSw); go_simp; try (with_reducible rfl))
        change wpAnyU _ _ _ _ _ _ _ _ (Act.put _ (some 48) _) _
        simp only [Act.put,lsT,ls0,lsS]
        have hfx9 : Fx (· = ob) wc3 ((wc3.setCell ⟨ob,0,none⟩ (.int .i64 0)).setCell ⟨ob,1,none⟩ (.slice none 0 0)):=Fx.setCell (p:=(· = ob)) (q:=⟨ob,1,none⟩) (Fx.setCell (p:=(· = ob)) (q:=⟨ob,0,none⟩) (Fx.refl _ wc3) (.inl rfl) _) (.inl rfl) _
        have hfz9:=Lib.hid (((Fx.of_fr hc3).trans hfx9).toFr (fun k hk e => by have e : k = ob:=e; omega))
        have x1:=(hAl.set0 (.int .i64 0)).b
        have x2:=(hAl.set0 (.int .i64 0)).fb
        obtain ⟨p0,p1,p2,p3⟩:=hAl
        refine wpAnyU_ready (rs:=[8]) (by kernel_rfl) (by simp) ?_
        refine AllReadyU.cons rfl (fun K hK => ?_) AllReadyU.nil
        go_simp
        refine hK.out _ _ (hS0.out _ hfz9.out) (fun hHeld => ?_)
        clear hK K p0 p1 p2 p3 x1 x2 hHeld
        try simp only [Act.put,lsT,ls0,lsS]
        refine wpAnyU_ready (rs:=[9]) (by kernel_rfl) (by simp) ?_
        refine AllReadyU.last rfl (by kernel_rfl) (by kernel_rfl) (fun K hK => ?_)
        go_simp
        refine hK.out _ _ ?_
        clear hK K
        go_wp2_with fail
        go_meet
        case rel => exact ⟨rfl,hfz9.out⟩
      ·
       go_simp
       refine hK.out _ _ (hS0.out _ (Fr.alloc ha1 _)) (fun hHeld => ?_)
       clear hK K
       try simp only [Act.put,lsT,ls0,lsS]
       obtain ⟨wb7,hW⟩ : ∃ W,W = wa1.alloc (.cells #[.int .i64 0,.slice none 0 0] 37):=⟨_,rfl⟩
       have hfA : Fr wa1 wb7:=by rw [hW]; exact (Fr.refl _).alloc _
       have hb7 : Fr W8 wb7:=Fr.trans ha1 hfA
       obtain ⟨ob,hob⟩ : ∃ ob,ob = wa1.heap.size:=⟨_,rfl⟩
       have hAl : Cel2 wb7 ob (.int .i64 0) (.slice none 0 0):=by rw [hW,hob]; exact Cel2.new _ _ _ _
       have hA1 : W8.heap.size ≤ ob:=by rw [hob]; exact Fr.size ha1
       rw [← hob,← hW]
       rw [← hW] at hHeld
       clear hW
       replace hob:=Lib.hid hob
       refine wpAnyU_ready (rs:=[2]) (by kernel_rfl) (by simp) ?_
       refine AllReadyU.cons rfl (fun K hK => ?_) AllReadyU.nil
       have hcv:=hcv0.out wb7 hfA
       go_simp
       refine hK.out _ _ (hS0.out _ hb7) (fun hHeld => ?_)
       clear hK K hcv
       try simp only [Act.put,lsT,ls0,lsS]
       refine wpAnyU_ready (rs:=[3]) (by kernel_rfl) (by simp) ?_
       refine AllReadyU.cons rfl (fun K hK => ?_) AllReadyU.nil
       go_simp
       refine (hlg.out _ hb7 T hT).mono ?_
       rintro e wc3 ⟨rfl,hfC⟩
       have hc3 : Fr W8 wc3:=Fr.trans hb7 hfC
       (try replace hAl:=hAl.fr hfC)
       go_wp2_with fail
       refine hK.out _ _ (hS0.out _ hc3) (fun hHeld => ?_)
       clear hK K hfC
       try simp only [Act.put,lsT,ls0,lsS]
       refine uT (v:=?_) 4 rfl (by kernel_rfl) (.inl ⟨by rfl, ?_⟩) (by assumption) ?_
       rotate_left
       ·(intro w hSw; (try dsimp only at hSw); go_simp; try (with_reducible rfl))
       change wpAnyU _ _ _ _ _ _ _ _ (Act.put _ (some 42) _) _
       simp only [Act.put,lsT,ls0,lsS]
       refine uT (v:=?_) 5 rfl (by kernel_rfl) (.inl ⟨by rfl, ?_⟩) (by assumption) ?_
       rotate_left
       ·(intro w hSw; (try dsimp only at hSw); go_simp; try (with_reducible rfl))
       change wpAnyU _ _ _ _ _ _ _ _ (Act.put _ (some 47) _) _
       simp only [Act.put,lsT,ls0,lsS]
       refine uT (v:=?_) 6 rfl (by kernel_rfl) (.inl ⟨by rfl, ?_⟩) (by assumption) ?_
       rotate_left
       ·(intro w hSw; (try dsimp only at hSw); go_simp; try (with_reducible rfl))
       change wpAnyU _ _ _ _ _ _ _ _ (Act.put _ (some 48) _) _
       simp only [Act.put,lsT,ls0,lsS]
       have hfx9 : Fx (· = ob) wc3 ((wc3.setCell ⟨ob,0,none⟩ (.int .i64 0)).setCell ⟨ob,1,none⟩ (.slice none 0 0)):=Fx.setCell (p:=(· = ob)) (q:=⟨ob,1,none⟩) (Fx.setCell (p:=(· = ob)) (q:=⟨ob,0,none⟩) (Fx.refl _ wc3) (.inl rfl) _) (.inl rfl) _
       have hfz9:=Lib.hid (((Fx.of_fr hc3).trans hfx9).toFr (fun k hk e => by have e : k = ob:=e; omega))
       have x1:=(hAl.set0 (.int .i64 0)).b
       have x2:=(hAl.set0 (.int .i64 0)).fb
       obtain ⟨p0,p1,p2,p3⟩:=hAl
       refine wpAnyU_ready (rs:=[8]) (by kernel_rfl) (by simp) ?_
       refine AllReadyU.cons rfl (fun K hK => ?_) AllReadyU.nil
       go_simp
       refine hK.out _ _ (hS0.out _ hfz9.out) (fun hHeld => ?_)
       clear hK K p0 p1 p2 p3 x1 x2 hHeld
       try simp only [Act.put,lsT,ls0,lsS]
       refine wpAnyU_ready (rs:=[9]) (by kernel_rfl) (by simp) ?_
       refine AllReadyU.last rfl (by kernel_rfl) (by kernel_rfl) (fun K hK => ?_)
       go_simp
       refine hK.out _ _ ?_
       clear hK K
       go_wp2_with fail
       go_meet
       case rel => exact ⟨rfl,hfz9.out⟩
     ·
      go_simp
      refine hK.out _ _ (hS0.out _ (Fr.alloc hd0 _)) (fun hHeld => ?_)
      clear hK K
      try simp only [Act.put,lsT,ls0,lsS]
      obtain ⟨wa7,hW⟩ : ∃ W,W = wd.alloc (.cells #[.int .i64 0,.slice none 0 0] 37):=⟨_,rfl⟩
      have hfA : Fr wd wa7:=by rw [hW]; exact (Fr.refl _).alloc _
      have ha7 : Fr W8 wa7:=Fr.trans hd0 hfA
      obtain ⟨ob,hob⟩ : ∃ ob,ob = wd.heap.size:=⟨_,rfl⟩
      have hAl : Cel2 wa7 ob (.int .i64 0) (.slice none 0 0):=by rw [hW,hob]; exact Cel2.new _ _ _ _
      have hA1 : W8.heap.size ≤ ob:=by rw [hob]; exact Fr.size hd0
      rw [← hob,← hW]
      rw [← hW] at hHeld
      clear hW
      replace hob:=Lib.hid hob
      refine wpAnyU_ready (rs:=[1]) (by kernel_rfl) (by simp) ?_
      refine AllReadyU.cons rfl (fun K hK => ?_) AllReadyU.nil
      refine step_make_full _ rfl _ _ 48 rfl wa7.heap.size 5 i5 _ 1 Tryz.underlying48 ci cz0 cz1 .i64 .i64 65537 65537 65537 (by simp [Act.eval]) (by simp [Act.eval]) rfl rfl (by rw [cz2]; omega) (by unfold maxLen; omega) (Nat.le_refl _) ?_
      intro wb1 hownM hgrM
      have hfM : Fr wa7 wb1:=(Fr.refl _).grown hgrM (fun k e => by cases e)
      have hb1 : Fr W8 wb1:=Fr.trans ha7 hfM
      obtain ⟨T,hT,hcv0⟩:=conv65 hownM
      replace hcv0:=Lib.hid hcv0
      (try replace hAl:=hAl.fr hfM)
      refine hK.out _ _ (hS0.out _ hb1) (fun hHeld => ?_)
      clear hK K hownM hgrM
      try simp only [Act.put,lsT]
      have hfV : Fr wb1 wb1:=Fr.refl _
      refine wpAnyU_ready (rs:=[2]) (by kernel_rfl) (by simp) ?_
      refine AllReadyU.cons rfl (fun K hK => ?_) AllReadyU.nil
      have hcv:=hcv0.out wb1 (Fr.refl _)
      go_simp
      refine hK.out _ _ (hS0.out _ hb1) (fun hHeld => ?_)
      clear hK K hcv
      try simp only [Act.put,lsT,ls0,lsS]
      refine wpAnyU_ready (rs:=[3]) (by kernel_rfl) (by simp) ?_
      refine AllReadyU.cons rfl (fun K hK => ?_) AllReadyU.nil
      go_simp
      refine (hlg.out _ hb1 T hT).mono ?_
      rintro e wc3 ⟨rfl,hfC⟩
      have hc3 : Fr W8 wc3:=Fr.trans hb1 hfC
      (try replace hAl:=hAl.fr hfC)
      go_wp2_with fail
      refine hK.out _ _ (hS0.out _ hc3) (fun hHeld => ?_)
      clear hK K hfC
      try simp only [Act.put,lsT,ls0,lsS]
      refine uT (v:=?_) 4 rfl (by kernel_rfl) (.inl ⟨by rfl, ?_⟩) (by assumption) ?_
      rotate_left
      ·(intro w hSw; (try dsimp only at hSw); go_simp; try (with_reducible rfl))
      change wpAnyU _ _ _ _ _ _ _ _ (Act.put _ (some 42) _) _
      simp only [Act.put,lsT,ls0,lsS]
      refine uT (v:=?_) 5 rfl (by kernel_rfl) (.inl ⟨by rfl, ?_⟩) (by assumption) ?_
      rotate_left
      ·(intro w hSw; (try dsimp only at hSw); go_simp; try (with_reducible rfl))
      change wpAnyU _ _ _ _ _ _ _ _ (Act.put _ (some 47) _) _
      simp only [Act.put,lsT,ls0,lsS]
      refine uT (v:=?_) 6 rfl (by kernel_rfl) (.inl ⟨by rfl, ?_⟩) (by assumption) ?_
      rotate_left
      ·(intro w hSw; (try dsimp only at hSw); go_simp; try (with_reducible rfl))
      change wpAnyU _ _ _ _ _ _ _ _ (Act.put _ (some 48) _) _
      simp only [Act.put,lsT,ls0,lsS]
      have hfx9 : Fx (· = ob) wc3 ((wc3.setCell ⟨ob,0,none⟩ (.int .i64 0)).setCell ⟨ob,1,none⟩ (.slice none 0 0)):=Fx.setCell (p:=(· = ob)) (q:=⟨ob,1,none⟩) (Fx.setCell (p:=(· = ob)) (q:=⟨ob,0,none⟩) (Fx.refl _ wc3) (.inl rfl) _) (.inl rfl) _
      have hfz9:=Lib.hid (((Fx.of_fr hc3).trans hfx9).toFr (fun k hk e => by have e : k = ob:=e; omega))
      have x1:=(hAl.set0 (.int .i64 0)).b
      have x2:=(hAl.set0 (.int .i64 0)).fb
      obtain ⟨p0,p1,p2,p3⟩:=hAl
      refine wpAnyU_ready (rs:=[8]) (by kernel_rfl) (by simp) ?_
      refine AllReadyU.cons rfl (fun K hK => ?_) AllReadyU.nil
      go_simp
      refine hK.out _ _ (hS0.out _ hfz9.out) (fun hHeld => ?_)
      clear hK K p0 p1 p2 p3 x1 x2 hHeld
      try simp only [Act.put,lsT,ls0,lsS]
      refine wpAnyU_ready (rs:=[9]) (by kernel_rfl) (by simp) ?_
      refine AllReadyU.last rfl (by kernel_rfl) (by kernel_rfl) (fun K hK => ?_)
      go_simp
      refine hK.out _ _ ?_
      clear hK K
      go_wp2_with fail
      go_meet
      case rel => exact ⟨rfl,hfz9.out⟩
    obtain ⟨rfl,hfc⟩:=hcut
    have hXc:=hX8.out.fr hfc
    have hYc:=hY8.out.fr hfc
    have x0:=hXc.a
    have x1:=hXc.b
    have y0:=hYc.a
    have y1:=hYc.b
    have q1 : (E == E) = true:=beq_self_eq_true E
    have hsm:=Lib.hid (fun W (hW : Fr wc W) => same42_eq i1 cs1 g1 g2 cc1 cc2 m1 m2 W ((hel8.out.fr hfc).fr hW) ((hem8.out.fr hfc).fr hW) hl1.out hl2.out (by omega))
    have f9:=(f3.trans hf38).trans hfc
    clear hel8 hem8 hel6 hel1 hel2 hps2 hlp2 hlg hlg8 hk hmk hGf hErf hmxf hXc hYc n0 n1 hS0
    go_wp2_with fail
    refine (hsm.out _ (Fr.refl _)).mono ?_
    rintro e wx ⟨rfl,hfx⟩
    go_wp2_with fail
    go_ret
    exact ⟨rfl,f9.trans hfx⟩
end Go.Proofs.YtkjemicelmabdaaGreatDoor
