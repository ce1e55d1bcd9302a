/-
  Contracts and laws for the statements of the seat, QTx2.
-/
import Derived.Test.YtkjemicelmabdaaGreatDoorQKn
import Derived.Test.YtkjemicelmabdaaGreatDoorQNB
import Derived.Test.YtkjemicelmabdaaGreatDoorQMk
import Derived.Lib.SplitLaws
import Derived.Test.YtkjemicelmabdaaGreatDoorQP
import Derived.Test.YtkjemicelmabdaaGreatDoorQRd

/- A text of a spelling and its words: plain laws. -/
namespace Go.Proofs.YtkjemicelmabdaaGreatDoor
open Go.RowKit Go.Lib

theorem index_app (c : UInt8) (r : List UInt8) : ∀ (x : List UInt8),c ∉ x → Lib.index (x ++ c :: r) [c] = x.length
 | [],_ => by
   show (if ([c] : List UInt8).isPrefixOf (c :: r) then (0 : Int) else _) = 0
   rw [if_pos (by simp [List.isPrefixOf])]
 | b :: x,h => by
   have h1 : c ≠ b:=fun e => h (by rw [e]; exact List.mem_cons_self)
   have h2 : c ∉ x:=fun e => h (List.mem_cons_of_mem _ e)
   show (if ([c] : List UInt8).isPrefixOf (b :: (x ++ c :: r)) then (0 : Int) else if Lib.index (x ++ c :: r) [c] == -1 then -1 else Lib.index (x ++ c :: r) [c] + 1) = _
   rw [if_neg (by simp [List.isPrefixOf,h1]),index_app c r x h2,if_neg (by simp),List.length_cons]
   omega
theorem joinTail_cons (sep x : List UInt8) (r : List (List UInt8)) : Lib.joinTail sep (x :: r) = sep ++ x ++ Lib.joinTail sep r:=by
 unfold Lib.joinTail; simp
theorem splitK_join : ∀ (ws : List (List UInt8)) (w0 : List UInt8),(∀ w,w ∈ w0 :: ws → (32 : UInt8) ∉ w) → Lib.splitK [32] 0 ws.length (w0 ++ Lib.joinTail [32] ws) = w0 :: ws
 | [],w0,_ => by show [w0 ++ Lib.joinTail [32] []] = _; unfold Lib.joinTail; simp
 | x :: ws,w0,h => by
   have hi : Lib.index (w0 ++ Lib.joinTail [32] (x :: ws)) [32] = w0.length:=by
    rw [joinTail_cons]
    exact index_app 32 _ w0 (h w0 List.mem_cons_self)
   have ih:=splitK_join ws x (fun w hw => h w (List.mem_cons_of_mem _ hw))
   rw [List.length_cons]
   unfold Lib.splitK
   rw [hi,if_neg (by simp),joinTail_cons]
   have e1 : (w0 ++ ([32] ++ x ++ Lib.joinTail [32] ws)).take ((w0.length : Int).toNat + 0) = w0:=by simp
   have e2 : (w0 ++ ([32] ++ x ++ Lib.joinTail [32] ws)).drop ((w0.length : Int).toNat + ([32] : List UInt8).length) = x ++ Lib.joinTail [32] ws:=by simp
   rw [e1,e2,ih]
theorem count_joinTail : ∀ (ws : List (List UInt8)),(∀ w,w ∈ ws → (32 : UInt8) ∉ w) → (Lib.joinTail [32] ws).count 32 = ws.length
 | [],_ => by unfold Lib.joinTail; simp
 | x :: ws,h => by
   rw [joinTail_cons,List.count_append,List.count_append,count_joinTail ws (fun w hw => h w (List.mem_cons_of_mem _ hw)),List.count_eq_zero_of_not_mem (h x List.mem_cons_self),List.length_cons]
   simp; omega
theorem joinW_data (w0 : ByteArray) (ws : List ByteArray) : (joinW (w0 :: ws)).data.toList = w0.data.toList ++ Lib.joinTail [32] (ws.map (·.data.toList)):=by
 unfold joinW
 rw [List.map_cons,Lib.join_cons]
theorem ba_list_inj : ∀ {a b : List ByteArray},a.map (·.data.toList) = b.map (·.data.toList) → a = b
 | [],[],_ => rfl
 | [],_ :: _,h => by simp at h
 | _ :: _,[],h => by simp at h
 | x :: a,y :: b,h => by
   rw [List.map_cons,List.map_cons] at h
   injection h with h1 h2
   rw [ba_ext h1,ba_list_inj h2]
theorem split_joinW (w0 : ByteArray) (ws : List ByteArray) (h : ∀ w,w ∈ w0 :: ws → (32 : UInt8) ∉ w.data.toList) : Lib.countB (joinW (w0 :: ws)) ⟨#[32]⟩ = ws.length ∧ Lib.splitB ⟨#[32]⟩ 0 (Lib.countB (joinW (w0 :: ws)) ⟨#[32]⟩) (joinW (w0 :: ws)) = w0 :: ws:=by
 have hc : Lib.countB (joinW (w0 :: ws)) ⟨#[32]⟩ = ws.length:=by
  show Lib.count (joinW (w0 :: ws)).data.toList [32] = _
  rw [Lib.count_one,joinW_data,List.count_append,count_joinTail _ (fun w hw => by
   obtain ⟨x,hx,rfl⟩:=List.mem_map.1 hw
   exact h x (List.mem_cons_of_mem _ hx)),List.count_eq_zero_of_not_mem (h w0 List.mem_cons_self),List.length_map]
  omega
 refine ⟨hc, ?_⟩
 rw [hc]
 apply ba_list_inj
 rw [Lib.splitB_data,joinW_data]
 have:=splitK_join (ws.map (·.data.toList)) w0.data.toList (fun w hw => by
  rcases List.mem_cons.1 hw with rfl | hw
  ·exact h w0 List.mem_cons_self
  ·obtain ⟨x,hx,rfl⟩:=List.mem_map.1 hw
   exact h x (List.mem_cons_of_mem _ hx))
 rw [List.length_map] at this
 exact this

/-! ### the words of counts -/
/-! ### a word is cut -/
end Go.Proofs.YtkjemicelmabdaaGreatDoor

/- notation.Parse of a name alone. -/
namespace Go.Proofs.YtkjemicelmabdaaGreatDoor
open Go.RowKit Go.Lib
attribute [local go_sem ↓] Go.wp_at_zero Go.wp_at_succ
end Go.Proofs.YtkjemicelmabdaaGreatDoor

/- notation.Text and the law's text; the text is parsed again. -/
namespace Go.Proofs.YtkjemicelmabdaaGreatDoor
open Go.RowKit Go.Lib
attribute [local go_sem ↓] Go.wp_at_zero Go.wp_at_succ
/-! ### the law's text -/
theorem joinW_snoc (w0 : ByteArray) (ws : List ByteArray) (x : ByteArray) : joinW (w0 :: (ws ++ [x])) = joinW (w0 :: ws) ++ ⟨#[32]⟩ ++ x:=by
 apply ba_ext
 rw [joinW_data,List.map_append,ByteArray.data_append,ByteArray.data_append,Array.toList_append,Array.toList_append,joinW_data]
 unfold Lib.joinTail
 simp
theorem joinW_one (w0 : ByteArray) : joinW [w0] = w0:=by
 apply ba_ext
 rw [joinW_data]
 unfold Lib.joinTail
 simp
end Go.Proofs.YtkjemicelmabdaaGreatDoor

/- The text of a spelling is parsed as the spelling. -/
namespace Go.Proofs.YtkjemicelmabdaaGreatDoor
open Go.RowKit Go.Lib
end Go.Proofs.YtkjemicelmabdaaGreatDoor

/- notation.Text and the law's text at the drafts' notations; schismalaw42.same at one spelling. -/
namespace Go.Proofs.YtkjemicelmabdaaGreatDoor
open Go.RowKit Go.Lib
attribute [local go_sem ↓] Go.wp_at_zero Go.wp_at_succ
set_option maxRecDepth 100000 in
set_option maxHeartbeats 1000000 in
theorem same42_eq (i : Int) (cs : List Int) (a b : Option Addr) (ca cb n m : Nat) (w : World) (hx : El w iv a cs) (hy : El w iv b cs) (hn : cs.length = n) (hm : cs.length = m) (h1 : n ≤ 1000000000) :
 Calls Tryz.prog 12 #[.agg #[.int .i64 i,.slice a n ca],.agg #[.int .i64 i,.slice b m cb]] w fun e w' => e = .returned (.bool true) ∧ Fr w w':=by
 have hE:=fun W (hW : Fr w W) => REqual_any cs cs a b ca cb n m W (hx.fr hW) (hy.fr hW) hn hm h1 (by omega)
 rw [decide_eq_true rfl] at hE
 replace hE:=Lib.hid hE
 clear hx hy hn hm
 have q1 : (i == i) = true:=beq_self_eq_true i
 have f2 : Fr w ((w.alloc (.cells #[.int .i64 i,.slice a n ca] 37)).alloc (.cells #[.int .i64 i,.slice b m cb] 37)):=((Fr.refl w).alloc _).alloc _
 replace f2:=Lib.hid f2
 go_enter Tryz.func12,Tryz.ntmps12
 go_wp2_with fail
 refine (hE.out _ f2.out).mono ?_
 rintro e w3 ⟨rfl,hf3⟩
 go_wp2_with fail
 go_ret
 exact ⟨rfl,f2.out.trans hf3⟩
end Go.Proofs.YtkjemicelmabdaaGreatDoor
