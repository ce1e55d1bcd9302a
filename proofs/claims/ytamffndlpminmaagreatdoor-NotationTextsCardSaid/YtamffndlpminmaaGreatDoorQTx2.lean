/-
  Contracts and laws for the statements of the seat, QTx2.
-/
import Derived.Test.YtamffndlpminmaaGreatDoorQKn
import Derived.Test.YtamffndlpminmaaGreatDoorQNB
import Derived.Test.YtamffndlpminmaaGreatDoorQMk
import Derived.Lib.SplitLaws
import Derived.Test.YtamffndlpminmaaGreatDoorQRd
import Derived.Test.YtamffndlpminmaaGreatDoorQP

/- A text of a spelling and its words: plain laws. -/
namespace Go.Proofs.YtamffndlpminmaaGreatDoor
open Go.RowKit Go.Lib

theorem index_app (c : UInt8) (r : List UInt8) : ∀ (x : List UInt8), c ∉ x → Lib.index (x ++ c :: r) [c] = x.length
  | [], _ => by
    show (if ([c] : List UInt8).isPrefixOf (c :: r) then (0 : Int) else _) = 0
    rw [if_pos (by simp [List.isPrefixOf])]
  | b :: x, h => by
    have h1 : c ≠ b := fun e => h (by rw [e]; exact List.mem_cons_self)
    have h2 : c ∉ x := fun e => h (List.mem_cons_of_mem _ e)
    show (if ([c] : List UInt8).isPrefixOf (b :: (x ++ c :: r)) then (0 : Int) else if Lib.index (x ++ c :: r) [c] == -1 then -1 else Lib.index (x ++ c :: r) [c] + 1) = _
    rw [if_neg (by simp [List.isPrefixOf, h1]), index_app c r x h2, if_neg (by simp), List.length_cons]
    omega
theorem joinTail_cons (sep x : List UInt8) (r : List (List UInt8)) : Lib.joinTail sep (x :: r) = sep ++ x ++ Lib.joinTail sep r := by
  unfold Lib.joinTail; simp
theorem splitK_join : ∀ (ws : List (List UInt8)) (w0 : List UInt8), (∀ w, w ∈ w0 :: ws → (32 : UInt8) ∉ w) → Lib.splitK [32] 0 ws.length (w0 ++ Lib.joinTail [32] ws) = w0 :: ws
  | [], w0, _ => by show [w0 ++ Lib.joinTail [32] []] = _; unfold Lib.joinTail; simp
  | x :: ws, w0, h => by
    have hi : Lib.index (w0 ++ Lib.joinTail [32] (x :: ws)) [32] = w0.length := by
      rw [joinTail_cons]
      exact index_app 32 _ w0 (h w0 List.mem_cons_self)
    have ih := splitK_join ws x (fun w hw => h w (List.mem_cons_of_mem _ hw))
    rw [List.length_cons]
    unfold Lib.splitK
    rw [hi, if_neg (by simp), joinTail_cons]
    have e1 : (w0 ++ ([32] ++ x ++ Lib.joinTail [32] ws)).take ((w0.length : Int).toNat + 0) = w0 := by simp
    have e2 : (w0 ++ ([32] ++ x ++ Lib.joinTail [32] ws)).drop ((w0.length : Int).toNat + ([32] : List UInt8).length) = x ++ Lib.joinTail [32] ws := by simp
    rw [e1, e2, ih]
theorem count_joinTail : ∀ (ws : List (List UInt8)), (∀ w, w ∈ ws → (32 : UInt8) ∉ w) → (Lib.joinTail [32] ws).count 32 = ws.length
  | [], _ => by unfold Lib.joinTail; simp
  | x :: ws, h => by
    rw [joinTail_cons, List.count_append, List.count_append, count_joinTail ws (fun w hw => h w (List.mem_cons_of_mem _ hw)), List.count_eq_zero_of_not_mem (h x List.mem_cons_self), List.length_cons]
    simp; omega
theorem joinW_data (w0 : ByteArray) (ws : List ByteArray) : (joinW (w0 :: ws)).data.toList = w0.data.toList ++ Lib.joinTail [32] (ws.map (·.data.toList)) := by
  unfold joinW
  rw [List.map_cons, Lib.join_cons]
theorem ba_list_inj : ∀ {a b : List ByteArray}, a.map (·.data.toList) = b.map (·.data.toList) → a = b
  | [], [], _ => rfl
  | [], _ :: _, h => by simp at h
  | _ :: _, [], h => by simp at h
  | x :: a, y :: b, h => by
    rw [List.map_cons, List.map_cons] at h
    injection h with h1 h2
    rw [ba_ext h1, ba_list_inj h2]
theorem split_joinW (w0 : ByteArray) (ws : List ByteArray) (h : ∀ w, w ∈ w0 :: ws → (32 : UInt8) ∉ w.data.toList) : Lib.countB (joinW (w0 :: ws)) ⟨#[32]⟩ = ws.length ∧ Lib.splitB ⟨#[32]⟩ 0 (Lib.countB (joinW (w0 :: ws)) ⟨#[32]⟩) (joinW (w0 :: ws)) = w0 :: ws := by
  have hc : Lib.countB (joinW (w0 :: ws)) ⟨#[32]⟩ = ws.length := by
    show Lib.count (joinW (w0 :: ws)).data.toList [32] = _
    rw [Lib.count_one, joinW_data, List.count_append, count_joinTail _ (fun w hw => by
      obtain ⟨x, hx, rfl⟩ := List.mem_map.1 hw
      exact h x (List.mem_cons_of_mem _ hx)), List.count_eq_zero_of_not_mem (h w0 List.mem_cons_self), List.length_map]
    omega
  refine ⟨hc, ?_⟩
  rw [hc]
  apply ba_list_inj
  rw [Lib.splitB_data, joinW_data]
  have := splitK_join (ws.map (·.data.toList)) w0.data.toList (fun w hw => by
    rcases List.mem_cons.1 hw with rfl | hw
    · exact h w0 List.mem_cons_self
    · obtain ⟨x, hx, rfl⟩ := List.mem_map.1 hw
      exact h x (List.mem_cons_of_mem _ hx))
  rw [List.length_map] at this
  exact this

/-! ### the words of counts -/
def cAt (cs : List Int) (i : Nat) : Int := (cs[i]?).getD 0
def wordOf (NA : List ByteArray) (cs : List Int) (i : Nat) : ByteArray := (NA[i]?).getD ⟨#[]⟩ ++ sgW (cAt cs i) ++ tx (cAt cs i)
def pcsT (NA : List ByteArray) (cs : List Int) : Nat → List Pc
  | 0 => []
  | i + 1 => pcsT NA cs i ++ if cAt cs i = 0 then [] else [⟨(NA[i]?).getD ⟨#[]⟩, decide (cAt cs i < 0), ((cAt cs i).natAbs : Int)⟩]
def atsT (cs : List Int) : Nat → List Nat
  | 0 => []
  | i + 1 => atsT cs i ++ if cAt cs i = 0 then [] else [i]
theorem pcsT_len (NA : List ByteArray) (cs : List Int) : ∀ i, (pcsT NA cs i).length = (atsT cs i).length
  | 0 => rfl
  | i + 1 => by rw [pcsT, atsT, List.length_append, List.length_append, pcsT_len NA cs i]; split <;> rfl
theorem wordsT_len (NA : List ByteArray) (cs : List Int) : ∀ i, (wordsT NA cs i).length = (atsT cs i).length
  | 0 => rfl
  | i + 1 => by
    rw [wordsT, atsT, List.length_append, List.length_append, wordsT_len NA cs i]
    show _ + (if cAt cs i = 0 then _ else _ : List ByteArray).length = _
    split <;> rfl
/-- what lies at one place of the three lists -/
theorem at_words (NA : List ByteArray) (cs : List Int) : ∀ (n k : Nat) (t : Nat), (atsT cs n)[k]? = some t → t < n ∧ cAt cs t ≠ 0 ∧ (wordsT NA cs n)[k]? = some (wordOf NA cs t) ∧ (pcsT NA cs n)[k]? = some ⟨(NA[t]?).getD ⟨#[]⟩, decide (cAt cs t < 0), ((cAt cs t).natAbs : Int)⟩
  | 0, k, t, h => by simp [atsT] at h
  | n + 1, k, t, h => by
    rw [atsT] at h
    have e1 : (wordsT NA cs (n + 1)) = wordsT NA cs n ++ if cAt cs n = 0 then [] else [wordOf NA cs n] := rfl
    rw [e1, pcsT]
    by_cases hk : k < (atsT cs n).length
    · rw [List.getElem?_append_left hk] at h
      obtain ⟨h1, h2, h3, h4⟩ := at_words NA cs n k t h
      rw [List.getElem?_append_left (by rw [wordsT_len]; exact hk), List.getElem?_append_left (by rw [pcsT_len]; exact hk)]
      exact ⟨by omega, h2, h3, h4⟩
    · rw [List.getElem?_append_right (by omega)] at h
      rw [List.getElem?_append_right (by rw [wordsT_len]; omega), List.getElem?_append_right (by rw [pcsT_len]; omega), wordsT_len, pcsT_len]
      by_cases h0 : cAt cs n = 0
      · rw [if_pos h0] at h; simp at h
      · rw [if_neg h0] at h ⊢
        rw [if_neg h0]
        have hk0 : k - (atsT cs n).length = 0 := by
          by_cases e : k - (atsT cs n).length = 0
          · exact e
          · rw [List.getElem?_eq_none (by simp; omega)] at h; cases h
        rw [hk0] at h ⊢
        injection h with h
        subst h
        exact ⟨by omega, h0, rfl, rfl⟩
theorem atsT_inc (cs : List Int) : ∀ (n k t u : Nat), (atsT cs n)[k]? = some t → (atsT cs n)[k + 1]? = some u → t < u
  | 0, k, t, u, h, _ => by simp [atsT] at h
  | n + 1, k, t, u, h1, h2 => by
    have b1 := (at_words [] cs (n + 1) k t h1).1
    rw [atsT] at h1 h2
    by_cases hk : k + 1 < (atsT cs n).length
    · rw [List.getElem?_append_left (by omega)] at h1
      rw [List.getElem?_append_left hk] at h2
      exact atsT_inc cs n k t u h1 h2
    · rw [List.getElem?_append_right (by omega)] at h2
      by_cases h0 : cAt cs n = 0
      · rw [if_pos h0] at h2; simp at h2
      · rw [if_neg h0] at h1 h2
        have hk0 : k + 1 - (atsT cs n).length = 0 := by
          by_cases e : k + 1 - (atsT cs n).length = 0
          · exact e
          · rw [List.getElem?_eq_none (by simp; omega)] at h2; cases h2
        rw [hk0] at h2
        injection h2 with h2
        subst h2
        rw [List.getElem?_append_left (by omega)] at h1
        exact (at_words [] cs n k t h1).1
theorem cntT_app (pcs x : List Pc) (ats y : List Nat) (d : Nat) : ∀ k, k ≤ pcs.length → k ≤ ats.length → cntT (pcs ++ x) (ats ++ y) d k = cntT pcs ats d k
  | 0, _, _ => rfl
  | k + 1, h1, h2 => by
    rw [cntT, cntT, cntT_app pcs x ats y d k (by omega) (by omega), List.getElem?_append_left (by omega), List.getElem?_append_left (by omega)]
theorem cnt_val (c : Int) (NA : List ByteArray) (t : Nat) : Pc.val ⟨(NA[t]?).getD ⟨#[]⟩, decide (c < 0), (c.natAbs : Int)⟩ = c := by
  unfold Pc.val
  by_cases h : c < 0
  · rw [if_pos (decide_eq_true h)]; show -(c.natAbs : Int) = c; omega
  · rw [if_neg (by simp [h])]; show (c.natAbs : Int) = c; omega
theorem cntT_words (NA : List ByteArray) (cs : List Int) (d : Nat) (hl : cs.length = d) : ∀ n, n ≤ d → cntT (pcsT NA cs n) (atsT cs n) d (atsT cs n).length = cs.take n ++ List.replicate (d - n) 0
  | 0, _ => by simp [atsT, cntT]
  | n + 1, hn => by
    have ih := cntT_words NA cs d hl n (by omega)
    obtain ⟨c, hc⟩ : ∃ c, cs[n]? = some c := ⟨_, List.getElem?_eq_getElem (by omega)⟩
    have hca : cAt cs n = c := by unfold cAt; rw [hc]; rfl
    have hsn := take_snoc hc
    have hrep : List.replicate (d - n) (0 : Int) = 0 :: List.replicate (d - (n + 1)) 0 := by rw [show d - n = (d - (n + 1)) + 1 by omega]; rfl
    rw [pcsT, atsT, hca]
    by_cases h0 : c = 0
    · rw [if_pos h0, if_pos h0, List.append_nil, List.append_nil, ih, hsn, hrep, h0, List.append_assoc]; rfl
    · rw [if_neg h0, if_neg h0, List.length_append, List.length_singleton, cntT]
      have hp := pcsT_len NA cs n
      rw [cntT_app _ _ _ _ _ _ (by omega) (Nat.le_refl _), ih, List.getElem?_append_right (by omega), List.getElem?_append_right (Nat.le_refl _), hp, Nat.sub_self]
      show List.set _ n (Pc.val _) = _
      rw [cnt_val, hsn, hrep, List.set_append_right _ _ (by rw [List.length_take]; omega), List.length_take, show n - min n cs.length = 0 by omega]
      simp

/-! ### a word is cut -/
theorem dec_head {u : Nat} (h : 0 < u) (h0 : 0 < (decDigits u).length) : ((decDigits u)[0]'h0).toNat ≠ 48 := fun e => by
  obtain ⟨b, r, hbr⟩ := List.exists_cons_of_ne_nil (dec_ne u)
  have key : ∀ (l : List UInt8) (h : 0 < l.length), l = b :: r → l[0]'h = b := by
    rintro _ _ rfl; rfl
  have hb : b.toNat = 48 := by
    rw [key _ h0 hbr] at e; exact e
  have hr : ∀ c ∈ r, 48 ≤ c.toNat ∧ c.toNat ≤ 57 := fun c hc => dec_digits u c (by rw [hbr]; exact List.mem_cons_of_mem _ hc)
  have hv : digVal 0 r = u := by
    have := digVal_dec u
    rw [hbr] at this
    have e3 : digVal 0 (b :: r) = digVal (0 * 10 + (b.toNat - 48)) r := rfl
    rw [e3, hb] at this
    exact this
  have hlt := (digVal_bound r 0 hr).2
  rw [hv] at hlt
  by_cases hl : r = []
  · have hv0 : (0 : Nat) = u := by rw [hl] at hv; exact hv
    exact (Nat.ne_of_gt h) hv0.symm
  · have h2 : 2 ≤ nDigits u := by
      rw [← Lib.decDigits_length, hbr, List.length_cons]
      have := List.length_pos_iff.2 hl
      omega
    have h3 := pow_le_of_nDigits u h2
    have h4 : nDigits u - 1 = r.length := by rw [← Lib.decDigits_length, hbr, List.length_cons]; omega
    rw [h4] at h3
    rw [Nat.zero_add, Nat.one_mul] at hlt
    exact absurd h3 (Nat.not_le_of_lt hlt)
theorem word_list (c0 : UInt8) (c : Int) (hc : c ≠ 0) : ((⟨#[c0]⟩ : ByteArray) ++ sgW c ++ tx c).data.toList = c0 :: (if c < 0 then 45 else 43) :: decDigits c.natAbs := by
  rw [ByteArray.data_append, ByteArray.data_append, Array.toList_append, Array.toList_append, tx_list]
  unfold sgW
  by_cases h : c < 0
  · rw [if_neg (by omega), if_pos h, itoa_ng h]; rfl
  · rw [if_pos (by omega), if_neg h, itoa_nn (by omega), show c.toNat = c.natAbs by omega]; rfl
theorem cut_word (c0 : UInt8) (h0 : c0 = 35 ∨ c0 = 111 ∨ c0 = 94) (c : Int) (hc : c ≠ 0) (hf : fitB c = true) (w : World) :
    Calls Tryz.prog 42 #[.string ((⟨#[c0]⟩ : ByteArray) ++ sgW c ++ tx c)] w fun e w' => e = .returned (.tuple #[.agg #[.string ⟨#[c0]⟩, .bool (decide (c < 0)), .string (tx (c.natAbs : Int))], .bool true]) ∧ Fr w w' := by
  have hfc : -1000000000 ≤ c ∧ c ≤ 1000000000 := of_decide_eq_true hf
  have hw := word_list c0 c hc
  obtain ⟨sg, hsg⟩ : ∃ sg : UInt8, sg = if c < 0 then 45 else 43 := ⟨_, rfl⟩
  rw [← hsg] at hw
  obtain ⟨D, hD⟩ : ∃ D, D = decDigits c.natAbs := ⟨_, rfl⟩
  have hDd : ∀ b ∈ D, 48 ≤ b.toNat ∧ b.toNat ≤ 57 := by rw [hD]; exact dec_digits _
  have hDp : 0 < D.length := by rw [hD]; exact List.length_pos_iff.2 (dec_ne _)
  have hDl : D.length ≤ 10 := by rw [hD, Lib.decDigits_length]; exact nDigits_le 10 _ (by decide) (by omega)
  have hDh : (D[0]'hDp).toNat ≠ 48 := by
    subst hD
    exact dec_head (u := c.natAbs) (by omega) hDp
  rw [← hD] at hw
  have htx : tx (c.natAbs : Int) = ⟨D.toArray⟩ := by rw [hD]; show (⟨(itoa (c.natAbs : Int)).toArray⟩ : ByteArray) = _; rw [itoa_nn (by omega)]; rfl
  have hS : (⟨#[c0]⟩ : ByteArray) ++ sgW c ++ tx c = ⟨(c0 :: sg :: D).toArray⟩ := ba_ext (by rw [hw])
  rw [hS, htx]
  have hc43 : ([43, 45] : List UInt8).contains c0 = false := by rcases h0 with rfl | rfl | rfl <;> decide
  have hsg43 : ([43, 45] : List UInt8).contains sg = true := by rw [hsg]; split <;> decide
  refine Cut_ok ⟨(c0 :: sg :: D).toArray⟩ ⟨#[c0]⟩ ⟨D.toArray⟩ 1 (decide (c < 0)) w ?_ ?_ ?_ ?_ ?_ ?_ ?_ ?_ ?_ ?_ ?_
  · show Lib.indexAny (c0 :: sg :: D) [43, 45] = _
    unfold Lib.indexAny
    rw [if_neg (by rw [hc43]; simp)]
    unfold Lib.indexAny
    rw [if_pos hsg43]; rfl
  · show 1 < (c0 :: sg :: D).toArray.size
    simp
  · show (c0 :: sg :: D).toArray.size ≤ 1000
    simp; omega
  · intro j b hj
    have hm : b ∈ c0 :: sg :: D := List.mem_of_getElem? hj
    rcases List.mem_cons.1 hm with rfl | hm
    · rcases h0 with rfl | rfl | rfl <;> decide
    · rcases List.mem_cons.1 hm with rfl | hm
      · rw [hsg]; split <;> decide
      · have := hDd b hm; omega
  · apply ba_ext
    rw [Lib.extract_from_zero]; rfl
  · apply ba_ext
    rw [Lib.extract_to_end]; rfl
  · show decide (c < 0) = ((sg.toNat : Int) == 45)
    rw [hsg]
    by_cases h : c < 0
    · rw [if_pos h, decide_eq_true h]; rfl
    · rw [if_neg h, decide_eq_false h]; rfl
  · rcases h0 with rfl | rfl | rfl <;> decide +kernel
  · show 0 < D.toArray.size
    simpa using hDp
  · intro j h
    have h2 : j < D.length := h
    rw [ba_at D j h h2]
    exact hDd _ (List.getElem_mem h2)
  · rw [ba_at D 0 hDp hDp]
    exact hDh
end Go.Proofs.YtamffndlpminmaaGreatDoor

/- notation.Text and the law's text; the text is parsed again. -/
namespace Go.Proofs.YtamffndlpminmaaGreatDoor
open Go.RowKit Go.Lib
attribute [local go_sem ↓] Go.wp_at_zero Go.wp_at_succ

set_option maxRecDepth 100000 in
set_option maxHeartbeats 2000000 in
theorem NText_err (N A : List Sy) (M d m : Nat) (i : Int) (cs : List Int) (ca aN aA : Option Addr) (cc cN cA : Nat) (w : World) (hc : El w iv ca cs) (hm : cs.length = m) (hM : N.length = M) (hd : A.length = d) (hl : m ≤ 1000000000) (hN : M ≤ 1000000000) (hA : d ≤ 1000000000) (E : Int) (hE : E = spE N A i cs) (h0 : E ≠ 0)
    (hck : ∀ W, Fr w W → Calls Tryz.prog 25 #[.agg #[.slice aN M cN, .slice aA d cA]] W fun e w' => e = .returned (.int .i64 0) ∧ Fr W w') :
    Calls Tryz.prog 13 #[.agg #[.slice aN M cN, .slice aA d cA], .agg #[.int .i64 i, .slice ca m cc]] w fun e w' => e = .returned (.tuple #[.string ⟨#[]⟩, .int .i64 E]) ∧ Fr w w' := by
  have hcs9 := fun W (hW : Fr w W) => NcheckSp_any aN aA cN cA N A i cs ca cc W (hc.fr hW) (by omega) (by omega) (by omega)
  rw [← hE, hM, hd, hm] at hcs9
  have q1 : (E != 0) = true := by rw [bne_iff_ne]; exact h0
  replace hcs9 := Lib.hid hcs9
  replace hck := Lib.hid hck
  replace h0 := Lib.hid h0
  clear hE hc
  obtain ⟨nb, hnb⟩ : ∃ nb, nb = w.heap.size := ⟨_, rfl⟩
  obtain ⟨W1, hW1⟩ : ∃ W1, W1 = (w.alloc (.cells #[.slice aN M cN, .slice aA d cA] 34)).alloc (.cells #[.int .i64 i, .slice ca m cc] 31) := ⟨_, rfl⟩
  have f1 : Fr w W1 := by rw [hW1]; exact ((Fr.refl _).alloc _).alloc _
  have hN1 : Cel2 W1 nb (.slice aN M cN) (.slice aA d cA) := by rw [hW1, hnb]; exact (Cel2.new w _ _ _).fr ((Fr.refl _).alloc _)
  have hS1 : Cel2 W1 (nb + 1) (.int .i64 i) (.slice ca m cc) := by
    have := Cel2.new (w.alloc (.cells #[.slice aN M cN, .slice aA d cA] 34)) (.int .i64 i) (.slice ca m cc) 31
    rw [World.size_alloc] at this
    rw [hW1, hnb]; exact this
  go_enter Tryz.func13, Tryz.ntmps13
  go_upto_region 1 with (fail)
  rw [← hW1, ← hnb]
  clear hW1 hnb
  have n0 := hN1.a
  have n1' := hN1.b
  have s0' := hS1.a
  have s1' := hS1.b
  replace hN1 := Lib.hid hN1
  replace hS1 := Lib.hid hS1
  go_wp2_with fail
  refine (hck.out _ f1).mono ?_
  rintro e w2 ⟨rfl, hf2⟩
  replace n0 := hf2.keep n0
  replace n1' := hf2.keep n1'
  replace s0' := hf2.keep s0'
  replace s1' := hf2.keep s1'
  have f2 := f1.trans hf2
  go_wp2_with fail
  refine (hcs9.out _ f2).mono ?_
  rintro e w3 ⟨rfl, hf3⟩
  go_wp2_with fail
  go_ret2
  exact ⟨rfl, f2.trans hf3⟩


/-! ### the law's text -/
theorem R2Abs (n : Int) (w : World) (hs : (tx n).size ≤ 1000000000) :
    Calls Tryz.prog 46 #[.string (tx n)] w fun e w' => e = .returned (.string (tx (n.natAbs : Int))) ∧ w = w' := by
  have h := Lib.hid (fun W => R2digits n W hs)
  go_enter Tryz.func46, Tryz.ntmps46
  go_wp2_with fail
  refine (h.out _).mono ?_
  rintro e w1 ⟨rfl, rfl⟩
  go_wp2_with fail
  go_ret
  exact ⟨rfl, rfl⟩
theorem joinW_snoc (w0 : ByteArray) (ws : List ByteArray) (x : ByteArray) : joinW (w0 :: (ws ++ [x])) = joinW (w0 :: ws) ++ ⟨#[32]⟩ ++ x := by
  apply ba_ext
  rw [joinW_data, List.map_append, ByteArray.data_append, ByteArray.data_append, Array.toList_append, Array.toList_append, joinW_data]
  unfold Lib.joinTail
  simp
theorem joinW_one (w0 : ByteArray) : joinW [w0] = w0 := by
  apply ba_ext
  rw [joinW_data]
  unfold Lib.joinTail
  simp
/-- the law's text behind the first counts -/
def txtT (nm0 : ByteArray) (NA : List ByteArray) (cs : List Int) (i : Nat) : ByteArray := joinW (nm0 :: wordsT NA cs i)
theorem txtT_skip {nm0 : ByteArray} {NA : List ByteArray} {cs : List Int} {i : Nat} (h : cAt cs i = 0) : txtT nm0 NA cs (i + 1) = txtT nm0 NA cs i := by
  unfold txtT
  rw [wordsT]
  show joinW (nm0 :: (wordsT NA cs i ++ if cAt cs i = 0 then _ else _)) = _
  rw [if_pos h, List.append_nil]
theorem txtT_pos {nm0 nm : ByteArray} {NA : List ByteArray} {cs : List Int} {i : Nat} (hn : NA[i]? = some nm) (h : 0 < cAt cs i) : txtT nm0 NA cs (i + 1) = txtT nm0 NA cs i ++ ⟨#[32]⟩ ++ nm ++ ⟨#[43]⟩ ++ tx ((cAt cs i).natAbs : Int) := by
  unfold txtT
  rw [wordsT]
  show joinW (nm0 :: (wordsT NA cs i ++ if cAt cs i = 0 then _ else [(NA[i]?).getD ⟨#[]⟩ ++ sgW (cAt cs i) ++ tx (cAt cs i)])) = _
  rw [if_neg (by omega), joinW_snoc, hn, show ((cAt cs i).natAbs : Int) = cAt cs i by omega]
  unfold sgW
  rw [if_pos h]
  simp [ByteArray.append_assoc]
theorem txtT_neg {nm0 nm : ByteArray} {NA : List ByteArray} {cs : List Int} {i : Nat} (hn : NA[i]? = some nm) (h : cAt cs i < 0) : txtT nm0 NA cs (i + 1) = txtT nm0 NA cs i ++ ⟨#[32]⟩ ++ nm ++ ⟨#[45]⟩ ++ tx ((cAt cs i).natAbs : Int) := by
  unfold txtT
  rw [wordsT]
  show joinW (nm0 :: (wordsT NA cs i ++ if cAt cs i = 0 then _ else [(NA[i]?).getD ⟨#[]⟩ ++ sgW (cAt cs i) ++ tx (cAt cs i)])) = _
  rw [if_neg (by omega), joinW_snoc, hn, show cAt cs i = -((cAt cs i).natAbs : Int) by omega, ← tx_join (n := ((cAt cs i).natAbs : Int)) (by omega)]
  unfold sgW
  rw [if_neg (by omega)]
  apply ba_ext
  simp [ByteArray.data_append]
set_option maxRecDepth 100000 in
set_option maxHeartbeats 4000000 in
theorem text42_any (N A : List Sy) (M d i0 : Nat) (cs : List Int) (nm0 : ByteArray) (ca aN aA : Option Addr) (cc cN cA : Nat) (w : World) (hG : G w) (hn : NotIs w aN aA cA N A) (lenA : A.length = d) (hM : N.length = M) (d6 : d ≤ 6) (_n60 : M ≤ 60) (hc : El w iv ca cs) (hcl : cs.length = d) (hcf : ∀ x, x ∈ cs → fitB x = true) (hi0 : i0 < M) (hs0 : (N.map Sy.nm)[i0]? = some nm0) (hs1 : nm0.size ≤ 1000) (hsA : ∀ x, x ∈ A → x.nm.size ≤ 1000) :
    Calls Tryz.prog 15 #[.agg #[.slice aN M cN, .slice aA d cA], .agg #[.int .i64 i0, .slice ca d cc]] w fun e w' => e = .returned (.string (txtT nm0 (A.map Sy.nm) cs d)) ∧ Fr w w' := by
  have hcb : ∀ i x, cs[i]? = some x → -1000000000 ≤ x ∧ x ≤ 1000000000 := fun i x h => of_decide_eq_true (hcf x (List.mem_of_getElem? h))
  have hGf := Lib.hid (fun W (hW : Fr w W) => hG.fr hW)
  have hnm := Lib.hid hn.noms
  have hac := Lib.hid hn.accs
  have hnA : ∀ (i : Nat) (x : Sy), A[i]? = some x → (A.map Sy.nm)[i]? = some x.nm := fun i x hx => by rw [List.getElem?_map, hx]; rfl
  have hN0 : ∀ x, N[i0]? = some x → x.nm = nm0 := fun x hx => by rw [List.getElem?_map, hx] at hs0; injection hs0
  replace hnA := Lib.hid hnA
  replace hN0 := Lib.hid hN0
  replace hc := Lib.hid hc
  replace hcl := Lib.hid hcl
  replace hcb := Lib.hid hcb
  replace hM := Lib.hid hM
  replace lenA := Lib.hid lenA
  have hz := Lib.hid (show txtT nm0 (A.map Sy.nm) cs 0 = nm0 from joinW_one nm0)
  generalize A.map Sy.nm = NA at *
  clear hG hn hs0 hcf
  obtain ⟨nb, hnb⟩ : ∃ nb, nb = w.heap.size := ⟨_, rfl⟩
  obtain ⟨W1, hW1⟩ : ∃ W1, W1 = (w.alloc (.cells #[.slice aN M cN, .slice aA d cA] 34)).alloc (.cells #[.int .i64 i0, .slice ca d cc] 31) := ⟨_, rfl⟩
  have f1 : Fr w W1 := by rw [hW1]; exact ((Fr.refl _).alloc _).alloc _
  have hN1 : Cel2 W1 nb (.slice aN M cN) (.slice aA d cA) := by rw [hW1, hnb]; exact (Cel2.new w _ _ _).fr ((Fr.refl _).alloc _)
  have hS1 : Cel2 W1 (nb + 1) (.int .i64 i0) (.slice ca d cc) := by
    have := Cel2.new (w.alloc (.cells #[.slice aN M cN, .slice aA d cA] 34)) (.int .i64 i0) (.slice ca d cc) 31
    rw [World.size_alloc] at this
    rw [hW1, hnb]; exact this
  go_enter Tryz.func15, Tryz.ntmps15
  go_upto_region 1 with (fail)
  rw [← hW1, ← hnb]
  clear hW1 hnb
  have n0 := hN1.a
  have s0' := hS1.a
  obtain ⟨ab, ao, y0, rfl, hbl, hy0, hc1, hc2, -⟩ := (hnm.out.fr f1).at (i := i0) (by rw [hM.out]; exact hi0)
  rw [hN0.out _ hy0] at hc1
  replace hy0 := Lib.hid hy0
  have z0 : (0 : Int) ≤ (i0 : Int) := Int.natCast_nonneg _
  have z1 : (i0 : Int) < (M : Int) := by omega
  replace hN1 := Lib.hid hN1
  replace hS1 := Lib.hid hS1
  clear hc2
  go_wp2_with fail
  clear hc1 n0 s0'
  go_loopg [5, 6] d (fun k s5 s6 wr => ∃ i : Nat, s6 = .int .i64 i ∧ s5 = .string (txtT nm0 NA cs i) ∧ i + k = d ∧ Fr W1 wr ∧ Hid ((txtT nm0 NA cs i).size ≤ 1000 + i * 1020))
  case atStart => exact ⟨0, rfl, by rw [hz.out], by omega, Fr.refl _, by show _ ≤ _; rw [hz.out]; omega⟩
  case round =>
    obtain ⟨i, rfl, rfl, hik, hf, hsz⟩ := hrel
    have hFr := f1.trans hf
    have n1 := hf.keep hN1.out.b
    have s1 := hf.keep hS1.out.b
    have y0 : (0 : Int) ≤ (i : Int) := Int.natCast_nonneg _
    obtain ⟨wo, rfl⟩ : ∃ wo : World, wo = wr := ⟨_, rfl⟩
    by_cases hi : i < d
    · have hdI : decide (i < d) = true := decide_eq_true hi
      have y1 : (i : Int) < (d : Int) := by omega
      obtain ⟨cb, co, kc, rfl, -, hkc, hd3⟩ := (hc.out.fr hFr).at (i := i) (by rw [hcl.out]; exact hi)
      have hca : cAt cs i = kc := by unfold cAt; rw [hkc]; rfl
      have q1 := hcb.out i kc hkc
      by_cases hk0 : kc = 0
      · have e0 : (kc != 0) = false := by rw [hk0]; rfl
        have hsk := Lib.hid (txtT_skip (nm0 := nm0) (NA := NA) (hca.trans hk0))
        replace hk0 := Lib.hid hk0
        replace hca := Lib.hid hca
        go_wp2_with fail
        go_roundg (gk - 1)
        case measure => omega
        case rel => exact ⟨i + 1, by go_num, by rw [hsk.out], by omega, hf, by show _ ≤ _; rw [hsk.out]; have := hsz.out; omega⟩
      · have e0 : (kc != 0) = true := by rw [bne_iff_ne]; exact hk0
        obtain ⟨bb, bo, x, hae, hbl2, hxi, hd1, hd2, -⟩ := (hac.out.fr hFr).at (i := i) (by rw [lenA.out]; exact hi)
        subst hae
        have hnx := hnA.out i x hxi
        have hsx := hsA x (List.mem_of_getElem? hxi)
        have hof := Lib.hid (fun W' (hW' : Fr wo W') => OfR_any kc (by omega) (by omega) W' (hGf.out _ (hFr.trans hW')))
        have hszk := tx_size_le 10 kc (by omega) (by omega)
        have hab := Lib.hid (fun W => R2Abs kc W (by omega))
        have hszn := abs_size 10 (a := kc) (by decide) (by omega)
        have hszt := hsz.out
        generalize x.nm = nm at *
        clear hd2
        by_cases hk1 : 0 < kc
        · have e1 : decide ((0 : Int) < kc) = true := decide_eq_true hk1
          have hpo := txtT_pos (nm0 := nm0) hnx (by rw [hca]; exact hk1)
          rw [hca] at hpo
          generalize tx (kc.natAbs : Int) = tk at *
          generalize txtT nm0 NA cs i = tt at *
          have v1 : ¬ (9223372036854775807 < tt.size + 1) := by omega
          have v2 : ¬ (9223372036854775807 < tt.size + 1 + nm.size) := by omega
          have v3 : ¬ (9223372036854775807 < tt.size + 1 + nm.size + 1) := by omega
          have v4 : ¬ (9223372036854775807 < tt.size + 1 + nm.size + 1 + tk.size) := by omega
          have hsz9 : Hid ((txtT nm0 NA cs (i + 1)).size ≤ 1000 + (i + 1) * 1020) := by
            show _ ≤ _
            rw [hpo, ByteArray.size_append, ByteArray.size_append, ByteArray.size_append, ByteArray.size_append]
            show tt.size + 1 + nm.size + 1 + tk.size ≤ _
            omega
          replace hpo := Lib.hid hpo
          replace hk0 := Lib.hid hk0
          replace hca := Lib.hid hca
          replace hkc := Lib.hid hkc
          replace hxi := Lib.hid hxi
          replace hnx := Lib.hid hnx
          go_wp2_with fail
          go_region_held3 (fun w' => w'.cell? ⟨nb, 1, none⟩ = some (.slice (some ⟨bb, bo, none⟩) d cA) ∧ w'.cell? ⟨bb, bo + i * 2, none⟩ = some (.string nm) ∧ w'.cell? ⟨nb + 1, 1, none⟩ = some (.slice (some ⟨cb, co, none⟩) d cc) ∧ w'.cell? ⟨cb, co + i, none⟩ = some (.int .i64 kc))
            (first | ((refine ⟨Fr.keep (w := wo) ?_ n1, Fr.keep (w := wo) ?_ hd1, Fr.keep (w := wo) ?_ s1, Fr.keep (w := wo) ?_ hd3⟩ <;> (repeat (with_reducible first | assumption | exact Fr.refl _ | refine Fr.drew ?_ | refine Fr.drewN ?_ _ | refine Fr.alloc ?_ _ | (refine Fr.setCell ?_ (by simp only [World.size_alloc, World.size_drew, World.size_setCell]; omega) _) | refine Fr.trans ?_ (by assumption)))); done))
            (first
              | (go_at_call 33; (with_reducible refine (hof.out _ ?_).mono ?_); (repeat (with_reducible first | assumption | exact Fr.refl _ | refine Fr.drew ?_ | refine Fr.drewN ?_ _ | refine Fr.alloc ?_ _ | (refine Fr.setCell ?_ (by simp only [World.size_alloc, World.size_drew, World.size_setCell]; omega) _) | refine Fr.trans ?_ (by assumption))); rintro e w6 ⟨rfl, hf6⟩)
              | (go_at_call 46; (with_reducible refine (hab.out _).mono ?_); rintro e w7 ⟨rfl, rfl⟩))
          all_goals
            have hf9 : Fr W1 w6 := hf.trans ((Fr.refl wo).drew.trans hf6)
            go_wp2_with fail
            go_roundg (gk - 1)
            case measure => omega
            case rel => exact ⟨i + 1, by go_num, by rw [hpo.out], by omega, hf9, hsz9.out⟩
        · have e1 : decide ((0 : Int) < kc) = false := decide_eq_false hk1
          have hpo := txtT_neg (nm0 := nm0) hnx (by rw [hca]; omega)
          rw [hca] at hpo
          generalize tx (kc.natAbs : Int) = tk at *
          generalize txtT nm0 NA cs i = tt at *
          have v1 : ¬ (9223372036854775807 < tt.size + 1) := by omega
          have v2 : ¬ (9223372036854775807 < tt.size + 1 + nm.size) := by omega
          have v3 : ¬ (9223372036854775807 < tt.size + 1 + nm.size + 1) := by omega
          have v4 : ¬ (9223372036854775807 < tt.size + 1 + nm.size + 1 + tk.size) := by omega
          have hsz9 : Hid ((txtT nm0 NA cs (i + 1)).size ≤ 1000 + (i + 1) * 1020) := by
            show _ ≤ _
            rw [hpo, ByteArray.size_append, ByteArray.size_append, ByteArray.size_append, ByteArray.size_append]
            show tt.size + 1 + nm.size + 1 + tk.size ≤ _
            omega
          replace hpo := Lib.hid hpo
          replace hk0 := Lib.hid hk0
          replace hca := Lib.hid hca
          replace hkc := Lib.hid hkc
          replace hxi := Lib.hid hxi
          replace hnx := Lib.hid hnx
          go_wp2_with fail
          go_region_held3 (fun w' => w'.cell? ⟨nb, 1, none⟩ = some (.slice (some ⟨bb, bo, none⟩) d cA) ∧ w'.cell? ⟨bb, bo + i * 2, none⟩ = some (.string nm) ∧ w'.cell? ⟨nb + 1, 1, none⟩ = some (.slice (some ⟨cb, co, none⟩) d cc) ∧ w'.cell? ⟨cb, co + i, none⟩ = some (.int .i64 kc))
            (first | ((refine ⟨Fr.keep (w := wo) ?_ n1, Fr.keep (w := wo) ?_ hd1, Fr.keep (w := wo) ?_ s1, Fr.keep (w := wo) ?_ hd3⟩ <;> (repeat (with_reducible first | assumption | exact Fr.refl _ | refine Fr.drew ?_ | refine Fr.drewN ?_ _ | refine Fr.alloc ?_ _ | (refine Fr.setCell ?_ (by simp only [World.size_alloc, World.size_drew, World.size_setCell]; omega) _) | refine Fr.trans ?_ (by assumption)))); done))
            (first
              | (go_at_call 33; (with_reducible refine (hof.out _ ?_).mono ?_); (repeat (with_reducible first | assumption | exact Fr.refl _ | refine Fr.drew ?_ | refine Fr.drewN ?_ _ | refine Fr.alloc ?_ _ | (refine Fr.setCell ?_ (by simp only [World.size_alloc, World.size_drew, World.size_setCell]; omega) _) | refine Fr.trans ?_ (by assumption))); rintro e w6 ⟨rfl, hf6⟩)
              | (go_at_call 46; (with_reducible refine (hab.out _).mono ?_); rintro e w7 ⟨rfl, rfl⟩))
          all_goals
            have hf9 : Fr W1 w6 := hf.trans ((Fr.refl wo).drew.trans hf6)
            go_wp2_with fail
            go_roundg (gk - 1)
            case measure => omega
            case rel => exact ⟨i + 1, by go_num, by rw [hpo.out], by omega, hf9, hsz9.out⟩
    · have hdI : decide (i < d) = false := decide_eq_false hi
      obtain rfl : d = i := by omega
      go_wp2_with fail
      go_ret
      exact ⟨rfl, hFr⟩
end Go.Proofs.YtamffndlpminmaaGreatDoor

/- The text of a spelling is parsed as the spelling. -/
namespace Go.Proofs.YtamffndlpminmaaGreatDoor
open Go.RowKit Go.Lib

theorem anD_byte (t : Nat) : ∃ c0 : UInt8, anD t = ⟨#[c0]⟩ ∧ (c0 = 35 ∨ c0 = 111 ∨ c0 = 94) := by
  match t with
  | 0 => exact ⟨35, rfl, .inl rfl⟩
  | 1 => exact ⟨111, rfl, .inr (.inl rfl)⟩
  | t + 2 => exact ⟨94, rfl, .inr (.inr rfl)⟩
theorem txtT_size {nm0 : ByteArray} {NA : List ByteArray} {cs : List Int} {d : Nat} (hNA : NA = (List.range d).map anD) (hcf : ∀ x, x ∈ cs → fitB x = true) : ∀ i, i ≤ d → (txtT nm0 NA cs i).size ≤ nm0.size + i * 13
  | 0, _ => by unfold txtT; rw [wordsT, joinW_one]; omega
  | i + 1, hi => by
    have ih := txtT_size (nm0 := nm0) hNA hcf i (by omega)
    have hn : NA[i]? = some (anD i) := by rw [hNA, List.getElem?_map, List.getElem?_range (by omega)]; rfl
    have hsz := anD_size i
    have hk : (cAt cs i).natAbs < 10 ^ 10 := by
      unfold cAt
      cases h : cs[i]? with
      | none => decide
      | some x =>
        have : -1000000000 ≤ x ∧ x ≤ 1000000000 := of_decide_eq_true (hcf x (List.mem_of_getElem? h))
        show x.natAbs < _
        omega
    have htx := abs_size 10 (a := cAt cs i) (by decide) hk
    rcases Int.lt_trichotomy (cAt cs i) 0 with h | h | h
    · rw [txtT_neg hn h, ByteArray.size_append, ByteArray.size_append, ByteArray.size_append, ByteArray.size_append]
      show (txtT nm0 NA cs i).size + 1 + (anD i).size + 1 + _ ≤ _
      omega
    · rw [txtT_skip h]; omega
    · rw [txtT_pos hn h, ByteArray.size_append, ByteArray.size_append, ByteArray.size_append, ByteArray.size_append]
      show (txtT nm0 NA cs i).size + 1 + (anD i).size + 1 + _ ≤ _
      omega
theorem nmD_name (i : Nat) (h : i < 8) : isName (nmD i) = true ∧ (32 : UInt8) ∉ (nmD i).data.toList := by
  have key : ∀ j : Fin 8, isName (nmD j.val) = true ∧ (32 : UInt8) ∉ (nmD j.val).data.toList := by decide +kernel
  exact key ⟨i, h⟩
theorem idx_nm (M i : Nat) (hM : M ≤ 8) (h : i < M) : idx (fun y : ByteArray => y.toList == (nmD i).toList) ((List.range M).map nmD) = i := by
  have key : ∀ m : Fin 9, ∀ j : Fin 8, j.val < m.val → idx (fun y : ByteArray => y.toList == (nmD j.val).toList) ((List.range m.val).map nmD) = j.val := by decide +kernel
  exact key ⟨M, by omega⟩ ⟨i, by omega⟩ h
theorem idx_an (d t : Nat) (hd : d ≤ 3) (h : t < d) : idx (fun y : ByteArray => y.toList == (anD t).toList) ((List.range d).map anD) = t := by
  have key : ∀ m : Fin 4, ∀ j : Fin 3, j.val < m.val → idx (fun y : ByteArray => y.toList == (anD j.val).toList) ((List.range m.val).map anD) = j.val := by decide +kernel
  exact key ⟨d, by omega⟩ ⟨t, by omega⟩ h
theorem NParse_text (N A : List Sy) (M d i0 : Nat) (cs : List Int) (aN aA : Option Addr) (cN cA : Nat) (w : World) (hG : G w) (hmx : ∃ m, w.cell? ⟨3, 0, none⟩ = some (.int .i64 m)) (hn : Nt42 w aN aA cN cA M d N A) (hcl : cs.length = d) (hcf : ∀ x, x ∈ cs → fitB x = true) (hi0 : i0 < M) :
    Calls Tryz.prog 14 #[.agg #[.slice aN M cN, .slice aA d cA], .string (txtT (nmD i0) (A.map Sy.nm) cs d)] w (SpRet w i0 cs d) := by
  have hM := hn.hM
  have hd := hn.hd
  have d3 := hn.d3
  have m8 := hn.m8
  have hck := fun W (hW : Fr w W) => (hn.fr hW).check (hG.fr hW)
  obtain ⟨NA, hNA⟩ : ∃ NA, NA = A.map Sy.nm := ⟨_, rfl⟩
  have hNA2 := hNA.trans hn.nmA
  rw [← hNA]
  have hg : ∀ t, t < d → NA[t]? = some (anD t) := fun t ht => by rw [hNA2, List.getElem?_map, List.getElem?_range ht]; rfl
  have hsz := txtT_size (nm0 := nmD i0) (cs := cs) hNA2 hcf d (Nat.le_refl _)
  have hs1 : (nmD i0).size = 1 := rfl
  have hwl := wordsT_len NA cs d
  have hpl := pcsT_len NA cs d
  have hcl9 : ∀ n, (atsT cs n).length ≤ n := fun n => by
    induction n with
    | zero => exact Nat.le_refl _
    | succ n ih =>
      rw [atsT, List.length_append]
      split
      · rw [List.length_nil]; omega
      · rw [List.length_singleton]; omega
  have hal := hcl9 d
  have hword : ∀ (k : Nat) (x : ByteArray), (wordsT NA cs d)[k]? = some x → ∃ t c0, t < d ∧ (c0 = (35 : UInt8) ∨ c0 = 111 ∨ c0 = 94) ∧ anD t = ⟨#[c0]⟩ ∧ cAt cs t ≠ 0 ∧ fitB (cAt cs t) = true ∧ x = (⟨#[c0]⟩ : ByteArray) ++ sgW (cAt cs t) ++ tx (cAt cs t) ∧ (atsT cs d)[k]? = some t ∧ (pcsT NA cs d)[k]? = some ⟨⟨#[c0]⟩, decide (cAt cs t < 0), ((cAt cs t).natAbs : Int)⟩ := fun k x hx => by
    have hk := (List.getElem?_eq_some_iff.1 hx).1
    obtain ⟨t, ht⟩ : ∃ t, (atsT cs d)[k]? = some t := ⟨_, List.getElem?_eq_getElem (by omega)⟩
    obtain ⟨h1, h2, h3, h4⟩ := at_words NA cs d k t ht
    obtain ⟨c0, e0, hc0⟩ := anD_byte t
    rw [hx] at h3
    injection h3 with h3
    unfold wordOf at h3
    rw [hg t h1] at h3 h4
    refine ⟨t, c0, h1, hc0, e0, h2, ?_, by rw [h3, ← e0]; rfl, ht, by rw [h4, ← e0]; rfl⟩
    unfold cAt at h2 ⊢
    cases hq : cs[t]? with
    | none => rw [hq] at h2; exact absurd rfl h2
    | some y => exact hcf y (List.mem_of_getElem? hq)
  have hspl := split_joinW (nmD i0) (wordsT NA cs d) (fun x hx => by
    rcases List.mem_cons.1 hx with rfl | hx
    · exact (nmD_name i0 (by omega)).2
    · obtain ⟨k, hk⟩ := List.mem_iff_getElem?.1 hx
      obtain ⟨t, c0, -, hc0, -, h2, -, rfl, -, -⟩ := hword k x hk
      rw [word_list c0 _ h2]
      intro hm
      rcases List.mem_cons.1 hm with e | hm
      · rcases hc0 with rfl | rfl | rfl <;> cases e
      · rcases List.mem_cons.1 hm with e | hm
        · split at e <;> cases e
        · have := dec_digits _ _ hm
          have e : (32 : UInt8).toNat = 32 := rfl
          omega)
  obtain ⟨hcnt, hspl⟩ := hspl
  have hidN : idx (fun y : Sy => y.nm.toList == (nmD i0).toList) N = i0 := by
    have := idx_map Sy.nm (fun y : ByteArray => y.toList == (nmD i0).toList) N
    rw [this, hn.nmN]
    exact idx_nm M i0 m8 hi0
  have hcw := cntT_words NA cs d hcl d (Nat.le_refl _)
  rw [Nat.sub_self, List.replicate_zero, List.append_nil, List.take_of_length_le (by omega)] at hcw
  by_cases h0 : (atsT cs d).length = 0
  · have hw0 : wordsT NA cs d = [] := List.eq_nil_of_length_eq_zero (by omega)
    have ha0 : atsT cs d = [] := List.eq_nil_of_length_eq_zero h0
    rw [hw0] at hspl hcnt
    have h := Parse_zero N A d i0 (txtT (nmD i0) NA cs d) (nmD i0) aN aA cN cA w hG hmx hn.hn hd (by omega) (by omega) (by omega) (by unfold txtT; rw [hw0]; exact hspl) (by unfold txtT; rw [hw0]; exact hcnt) (by omega) (nmD_name i0 (by omega)).1 hidN (by rw [hM, hd]; exact hck)
    rw [hM, hd] at h
    rw [h0] at hcw
    have e : List.replicate d (0 : Int) = cs := by rw [← hcw]; rfl
    rw [e] at h
    exact h
  · have h := Parse_ok N A d i0 (txtT (nmD i0) NA cs d) (nmD i0) (wordsT NA cs d) (pcsT NA cs d) (atsT cs d) aN aA cN cA w hG hmx hn.hn hd (by omega) (by omega) (by omega) (by omega) hspl hcnt (by omega) (nmD_name i0 (by omega)).1 (by omega) (by omega) (by omega)
      (fun k x p hx hp W _ => by
        obtain ⟨t, c0, -, hc0, -, h2, h3, rfl, -, h5⟩ := hword k x hx
        rw [hp] at h5
        injection h5 with h5
        subst h5
        exact cut_word c0 hc0 _ h2 h3 W) hidN (by omega) (fun k p t hp ht => by
        obtain ⟨x, hx⟩ : ∃ x, (wordsT NA cs d)[k]? = some x := ⟨_, List.getElem?_eq_getElem (by have := (List.getElem?_eq_some_iff.1 ht).1; omega)⟩
        obtain ⟨t', c0, h1, -, e0, -, -, -, h4, h5⟩ := hword k x hx
        rw [ht] at h4
        injection h4 with h4
        subst h4
        rw [hp] at h5
        injection h5 with h5
        subst h5
        refine ⟨?_, h1⟩
        have := idx_map Sy.nm (fun y : ByteArray => y.toList == (⟨#[c0]⟩ : ByteArray).toList) A
        rw [← e0] at this
        show idx (fun y : Sy => y.nm.toList == (⟨#[c0]⟩ : ByteArray).toList) A = t
        rw [← e0, this, hn.nmA]
        exact idx_an d t d3 h1) (fun k t u ht hu => atsT_inc cs d k t u ht hu) (fun p hp => by
        obtain ⟨k, hk⟩ := List.mem_iff_getElem?.1 hp
        obtain ⟨x, hx⟩ : ∃ x, (wordsT NA cs d)[k]? = some x := ⟨_, List.getElem?_eq_getElem (by have := (List.getElem?_eq_some_iff.1 hk).1; omega)⟩
        obtain ⟨t, c0, -, -, -, h2, h3, -, -, h5⟩ := hword k x hx
        rw [hk] at h5
        injection h5 with h5
        subst h5
        have h3 : -1000000000 ≤ cAt cs t ∧ cAt cs t ≤ 1000000000 := of_decide_eq_true h3
        show 1 ≤ ((cAt cs t).natAbs : Int) ∧ ((cAt cs t).natAbs : Int) ≤ _
        omega) (by rw [hM, hd]; exact hck)
    rw [hM, hd, hwl, hcw] at h
    exact h
end Go.Proofs.YtamffndlpminmaaGreatDoor

/- notation.Text and the law's text at the drafts' notations; schismalaw42.same at one spelling. -/
namespace Go.Proofs.YtamffndlpminmaaGreatDoor
open Go.RowKit Go.Lib
attribute [local go_sem ↓] Go.wp_at_zero Go.wp_at_succ

theorem nm_at {M d : Nat} {w : World} {aN aA : Option Addr} {cN cA : Nat} {N A : List Sy} (hn : Nt42 w aN aA cN cA M d N A) {i0 : Nat} (h : i0 < M) : (N.map Sy.nm)[i0]? = some (nmD i0) := by
  rw [hn.nmN, List.getElem?_map, List.getElem?_range h]; rfl
theorem NText42 (N A : List Sy) (M d m : Nat) (i : Int) (cs : List Int) (ca aN aA : Option Addr) (cc cN cA : Nat) (w : World) (hG : G w) (hn : Nt42 w aN aA cN cA M d N A) (hc : El w iv ca cs) (hm : cs.length = m) (h0 : spE N A i cs = 0) :
    Calls Tryz.prog 13 #[.agg #[.slice aN M cN, .slice aA d cA], .agg #[.int .i64 i, .slice ca m cc]] w fun e w' => e = .returned (.tuple #[.string (txtT (nmD i.toNat) (A.map Sy.nm) cs d), .int .i64 0]) ∧ Fr w w' := by
  have hM := hn.hM
  have hd := hn.hd
  have d3 := hn.d3
  have m8 := hn.m8
  obtain ⟨i1, i2, i3, i4⟩ := spE_inv h0
  obtain ⟨i0, rfl⟩ := Int.eq_ofNat_of_zero_le i1
  have i2 : i0 < N.length := i2
  have hck := fun W (hW : Fr w W) => (hn.fr hW).check (hG.fr hW)
  have h := NText_ok N A d i0 cs (nmD i0) ca aN aA cc cN cA w hG hn.hn hd (by omega) (by omega) hc (by omega) i4 i2 (nm_at hn (by omega)) (fun x hx => by
    rcases List.mem_append.1 hx with h9 | h9
    · have := (hn.rN x h9).1; omega
    · have := (hn.rA x h9).1; omega) (by rw [hM, hd]; exact hck)
  rw [hM, hd] at h
  rw [show m = d by omega]
  exact h
theorem ltext42 (N A : List Sy) (M d m : Nat) (i : Int) (cs : List Int) (ca aN aA : Option Addr) (cc cN cA : Nat) (w : World) (hG : G w) (hn : Nt42 w aN aA cN cA M d N A) (hc : El w iv ca cs) (hm : cs.length = m) (h0 : spE N A i cs = 0) :
    Calls Tryz.prog 15 #[.agg #[.slice aN M cN, .slice aA d cA], .agg #[.int .i64 i, .slice ca m cc]] w fun e w' => e = .returned (.string (txtT (nmD i.toNat) (A.map Sy.nm) cs d)) ∧ Fr w w' := by
  have hM := hn.hM
  have hd := hn.hd
  have d3 := hn.d3
  have m8 := hn.m8
  obtain ⟨i1, i2, i3, i4⟩ := spE_inv h0
  obtain ⟨i0, rfl⟩ := Int.eq_ofNat_of_zero_le i1
  have i2 : i0 < N.length := i2
  rw [show m = d by omega]
  exact text42_any N A M d i0 cs (nmD i0) ca aN aA cc cN cA w hG hn.hn hd hM (by omega) (by omega) hc (by omega) i4 (by omega) (nm_at hn (by omega)) (by rw [nmD_size]; omega) (fun x hx => by
    have := (hn.rA x hx).1; omega)
theorem lparse42 (N A : List Sy) (M d : Nat) (i : Int) (cs : List Int) (aN aA : Option Addr) (cN cA : Nat) (w : World) (hG : G w) (hmx : ∃ m, w.cell? ⟨3, 0, none⟩ = some (.int .i64 m)) (hn : Nt42 w aN aA cN cA M d N A) (h0 : spE N A i cs = 0) :
    Calls Tryz.prog 14 #[.agg #[.slice aN M cN, .slice aA d cA], .string (txtT (nmD i.toNat) (A.map Sy.nm) cs d)] w (SpRet w i cs d) := by
  have hM := hn.hM
  have hd := hn.hd
  obtain ⟨i1, i2, i3, i4⟩ := spE_inv h0
  obtain ⟨i0, rfl⟩ := Int.eq_ofNat_of_zero_le i1
  have i2 : i0 < N.length := i2
  exact NParse_text N A M d i0 cs aN aA cN cA w hG hmx hn (by omega) i4 (by omega)

set_option maxRecDepth 100000 in
set_option maxHeartbeats 1000000 in
theorem same42_eq (i : Int) (cs : List Int) (a b : Option Addr) (ca cb n m : Nat) (w : World) (hx : El w iv a cs) (hy : El w iv b cs) (hn : cs.length = n) (hm : cs.length = m) (h1 : n ≤ 1000000000) :
    Calls Tryz.prog 16 #[.agg #[.int .i64 i, .slice a n ca], .agg #[.int .i64 i, .slice b m cb]] w fun e w' => e = .returned (.bool true) ∧ Fr w w' := by
  have hE := fun W (hW : Fr w W) => REqual_any cs cs a b ca cb n m W (hx.fr hW) (hy.fr hW) hn hm h1 (by omega)
  rw [decide_eq_true rfl] at hE
  replace hE := Lib.hid hE
  clear hx hy hn hm
  have q1 : (i == i) = true := beq_self_eq_true i
  have f2 : Fr w ((w.alloc (.cells #[.int .i64 i, .slice a n ca] 31)).alloc (.cells #[.int .i64 i, .slice b m cb] 31)) := ((Fr.refl w).alloc _).alloc _
  replace f2 := Lib.hid f2
  go_enter Tryz.func16, Tryz.ntmps16
  go_wp2_with fail
  refine (hE.out _ f2.out).mono ?_
  rintro e w3 ⟨rfl, hf3⟩
  go_wp2_with fail
  go_ret
  exact ⟨rfl, f2.out.trans hf3⟩
end Go.Proofs.YtamffndlpminmaaGreatDoor

/- schismalaw42.NotationTexts returns true at every draft and spelling. -/
namespace Go.Proofs.YtamffndlpminmaaGreatDoor
open Go.RowKit Go.Lib
attribute [local go_sem ↓] Go.wp_at_zero Go.wp_at_succ

set_option maxRecDepth 100000 in
set_option maxHeartbeats 40000000 in
theorem NotationTexts_any (R : Int) (hR0 : 0 ≤ R) (hR1 : R ≤ 255) (L : List (List Int)) (a : Option Addr) (c : Nat) (b0 b1 b2 b3 b4 b5 b6 b7 b8 : Int) (i : Int) (cs : List Int) (ca : Option Addr) (cc : Nat) (w : World) (hG : G w) (hmx : ∃ m, w.cell? ⟨3, 0, none⟩ = some (.int .i64 m)) (hL : TriIs w a L) (hL8 : Tri8 L) (hB8 : Tri8 [[b0, b1, b2], [b3, b4, b5], [b6, b7, b8]]) (hc : El w iv ca cs) :
    Calls Tryz.prog 4 #[.agg #[.int .u8 R, .slice a L.length c, .int .i8 b0, .int .i8 b1, .int .i8 b2, .int .i8 b3, .int .i8 b4, .int .i8 b5, .int .i8 b6, .int .i8 b7, .int .i8 b8], .agg #[.int .i64 i, .slice ca cs.length cc]] w fun e w' => e = .returned (.bool true) ∧ Fr w w' := by
  have hk := Lib.hid (fun W (hW : Fr w W) => known42_any W (hG.fr hW) (hmx.imp fun m h => hW.keep h))
  obtain ⟨d, hd⟩ : ∃ d : Nat, (d : Int) = R % 4 := ⟨(R % 4).toNat, by omega⟩
  have hd3 : d ≤ 3 := by omega
  have hmk := Lib.hid (fun W (hW : Fr w W) => Make42_any R hR0 hR1 d hd L a c b0 b1 b2 b3 b4 b5 b6 b7 b8 W (hG.fr hW) (hL.fr hW) hL8 hB8)
  have hGf := Lib.hid (fun W (hW : Fr w W) => hG.fr hW)
  have hmxf := Lib.hid (fun W (hW : Fr w W) => hmx.imp fun m h => hW.keep h)
  obtain ⟨m, hm⟩ : ∃ m, m = cs.length := ⟨_, rfl⟩
  obtain ⟨l, hl⟩ : ∃ l, l = L.length := ⟨_, rfl⟩
  rw [← hl] at hmk ⊢
  rw [← hm]
  replace hm := Lib.hid hm
  replace hl := Lib.hid hl
  replace hd := Lib.hid hd
  replace hL8 := Lib.hid hL8
  replace hB8 := Lib.hid hB8
  replace hc := Lib.hid hc
  clear hG hmx hL
  have f1 : Fr w ((w.alloc (.cells #[.int .u8 R, .slice a l c, .int .i8 b0, .int .i8 b1, .int .i8 b2, .int .i8 b3, .int .i8 b4, .int .i8 b5, .int .i8 b6, .int .i8 b7, .int .i8 b8] 27)).alloc (.cells #[.int .i64 i, .slice ca m cc] 31)) := ((Fr.refl _).alloc _).alloc _
  have hS1 := Cel2.new (w.alloc (.cells #[.int .u8 R, .slice a l c, .int .i8 b0, .int .i8 b1, .int .i8 b2, .int .i8 b3, .int .i8 b4, .int .i8 b5, .int .i8 b6, .int .i8 b7, .int .i8 b8] 27)) (.int .i64 i) (.slice ca m cc) 31
  rw [World.size_alloc] at hS1
  go_enter Tryz.func4, Tryz.ntmps4
  go_wp2_with fail
  refine (hmk.out _ f1).mono ?_
  rintro e w1 ⟨N, A, aN, cN, aA, cA, r, fine, hN, hA, hn, hf1, hfine, hr1, hr2, rfl⟩
  have f2 := f1.trans hf1
  have hS2 := Lib.hid (hS1.fr hf1)
  clear hS1 f1 hf1
  obtain ⟨M, hM⟩ : ∃ M, M = N.length := ⟨_, rfl⟩
  have hAd : A.length = d := by rw [← bare_len, hA]; unfold accsD; rw [List.length_map, List.length_range]
  have hnt := fun (hf : nchkE N A r = 0) => nt42_of (cN := cN) hn hN hA hd3 hL8.out hB8.out rfl hf hr1 hr2
  rw [← hM] at hnt ⊢
  rw [hAd]
  replace hM := Lib.hid hM
  replace hAd := Lib.hid hAd
  obtain ⟨nb, hnb⟩ : ∃ nb, nb = w1.heap.size := ⟨_, rfl⟩
  obtain ⟨W3, hW3⟩ : ∃ W3, W3 = w1.alloc (.cells #[.slice aN M cN, .slice aA d cA] 34) := ⟨_, rfl⟩
  have f13 : Fr w1 W3 := by rw [hW3]; exact (Fr.refl _).alloc _
  have hC3 : Cel2 W3 nb (.slice aN M cN) (.slice aA d cA) := by rw [hW3, hnb]; exact Cel2.new _ _ _ _
  have hS3 := hS2.out.fr f13
  have f3 := f2.trans f13
  cases fine with
  | false =>
    clear hnt hfine hN hA hn hr1 hr2
    go_upto_region 2 with (fail)
    rw [← hW3, ← hnb]
    clear hW3
    replace hnb := Lib.hid hnb
    have s1 := hS3.b
    replace hS3 := Lib.hid hS3
    go_wp2_with fail
    refine (hk.out _ f3).mono ?_
    rintro e w4 ⟨rfl, hf4⟩
    go_wp2_with fail
    refine (hk.out _ (f3.trans hf4)).mono ?_
    rintro e w5 ⟨rfl, hf5⟩
    go_wp2_with fail
    go_ret
    exact ⟨rfl, (f3.trans hf4).trans hf5⟩
  | true =>
    have hN3 := (hnt (of_decide_eq_true hfine.symm)).fr f13
    clear hnt hfine hN hA hn hr1 hr2
    go_upto_region 2 with (fail)
    rw [← hW3, ← hnb]
    clear hW3
    replace hnb := Lib.hid hnb
    have n0 := hC3.a
    have n1 := hC3.b
    have s0 := hS3.a
    have s1 := hS3.b
    replace hS3 := Lib.hid hS3
    replace hC3 := Lib.hid hC3
    by_cases h5 : 5 < m
    · have d5 : decide ((5 : Int) < (m : Int)) = true := decide_eq_true (by omega)
      clear hN3
      have s1h := Lib.hid (fun W (hW : Fr W3 W) => hW.keep s1)
      go_wp2_with fail
      refine (hk.out _ f3).mono ?_
      rintro e w4 ⟨rfl, hf4⟩
      have s14 := s1h.out _ hf4
      go_wp2_with fail
      refine (hk.out _ (f3.trans hf4)).mono ?_
      rintro e w5 ⟨rfl, hf5⟩
      go_wp2_with fail
      go_ret
      exact ⟨rfl, (f3.trans hf4).trans hf5⟩
    · have d5 : decide ((5 : Int) < (m : Int)) = false := decide_eq_false (by omega)
      have hsp := Lib.hid (fun W (hW : Fr W3 W) => spelling42_any aN aA cN cA N A i cs ca cc W (hc.out.fr (f3.trans hW)) (by rw [← hm.out]; omega) (by rw [hN3.hM]; have := hN3.m8; omega) (by rw [hN3.hd]; omega))
      rw [hN3.hM, hN3.hd, ← hm.out] at hsp
      by_cases hsp0 : spE N A i cs = 0
      · have hmx3 := Lib.hid (fun W (hW : Fr W3 W) => hmxf.out W (f3.trans hW))
        have htx := Lib.hid (fun W (hW : Fr W3 W) => NText42 N A M d m i cs ca aN aA cc cN cA W (hGf.out _ (f3.trans hW)) (hN3.fr hW) (hc.out.fr (f3.trans hW)) hm.out.symm hsp0)
        have hlt := Lib.hid (fun W (hW : Fr W3 W) => ltext42 N A M d m i cs ca aN aA cc cN cA W (hGf.out _ (f3.trans hW)) (hN3.fr hW) (hc.out.fr (f3.trans hW)) hm.out.symm hsp0)
        have hps := Lib.hid (fun W (hW : Fr W3 W) => lparse42 N A M d i cs aN aA cN cA W (hGf.out _ (f3.trans hW)) (hmx3.out W hW) (hN3.fr hW) hsp0)
        have hmd : m = d := by have := (spE_inv hsp0).2.2.1; rw [hN3.hd] at this; rw [hm.out]; exact this
        rw [hsp0] at hsp
        clear hN3
        replace hmd := Lib.hid hmd
        replace hsp0 := Lib.hid hsp0
        generalize txtT (nmD i.toNat) (A.map Sy.nm) cs d = tt at *
        have q1 : (tt.toList == tt.toList) = true := beq_self_eq_true _
        go_wp2_with fail
        refine (hk.out _ f3).mono ?_
        rintro e w4 ⟨rfl, hf4⟩
        replace n0 := hf4.keep n0
        replace n1 := hf4.keep n1
        replace s0 := hf4.keep s0
        replace s1 := hf4.keep s1
        go_wp2_with fail
        refine (htx.out _ hf4).mono ?_
        rintro e w5 ⟨rfl, hf5⟩
        have hf35 := hf4.trans hf5
        replace n0 := hf5.keep n0
        replace n1 := hf5.keep n1
        replace s0 := hf5.keep s0
        replace s1 := hf5.keep s1
        go_wp2_with fail
        refine (hsp.out _ hf35).mono ?_
        rintro e w6 ⟨rfl, hf6⟩
        have hf36 := hf35.trans hf6
        replace n0 := hf6.keep n0
        replace n1 := hf6.keep n1
        replace s0 := hf6.keep s0
        replace s1 := hf6.keep s1
        go_wp2_with fail
        refine (hps.out _ hf36).mono ?_
        rintro e w7 ⟨g7, c7, rfl, hel7, hl7, hf7⟩
        replace n0 := hf7.keep n0
        replace n1 := hf7.keep n1
        replace s0 := hf7.keep s0
        replace s1 := hf7.keep s1
        have hf37 := hf36.trans hf7
        obtain ⟨xb, hxb⟩ : ∃ xb, xb = w7.heap.size := ⟨_, rfl⟩
        obtain ⟨W8, hW8⟩ : ∃ W8, W8 = w7.alloc (.cells #[.int .i64 i, .slice (some ⟨g7, 0, none⟩) d c7] 31) := ⟨_, rfl⟩
        have f78 : Fr w7 W8 := by rw [hW8]; exact (Fr.refl _).alloc _
        have hX8 : Cel2 W8 xb (.int .i64 i) (.slice (some ⟨g7, 0, none⟩) d c7) := by rw [hW8, hxb]; exact Cel2.new _ _ _ _
        go_upto_region 9 with (fail)
        rw [← hW8, ← hxb]
        clear hW8
        replace hxb := Lib.hid hxb
        replace n0 := f78.keep n0
        replace n1 := f78.keep n1
        replace s0 := f78.keep s0
        replace s1 := f78.keep s1
        have x0 := hX8.a
        have x1 := hX8.b
        replace hX8 := Lib.hid hX8
        have f38 := hf37.trans f78
        have hsm := Lib.hid (fun W (hW : Fr W8 W) => same42_eq i cs (some ⟨g7, 0, none⟩) ca c7 cc d m W ((hel7.fr f78).fr hW) (hc.out.fr (f3.trans (f38.trans hW))) hl7 hm.out.symm (by omega))
        have hlt8 := fun W (hW : Fr W8 W) => hlt.out W (f38.trans hW)
        have f8 := f3.trans f38
        obtain ⟨tu, htu⟩ : ∃ tu, tu = tt := ⟨_, rfl⟩
        rw [← htu] at hlt8
        replace q1 : (tt.toList == tu.toList) = true := by rw [htu]; exact q1
        replace htu := Lib.hid htu
        replace hlt8 := Lib.hid hlt8
        clear hel7 hl7 hlt hps htx hsp hmx3 hk hmxf hGf hmk
        go_wp2_with fail
        refine (hlt8.out _ (Fr.refl _)).mono ?_
        rintro e w9 ⟨rfl, hf9⟩
        replace s0 := hf9.keep s0
        replace s1 := hf9.keep s1
        replace x0 := hf9.keep x0
        replace x1 := hf9.keep x1
        go_wp2_with fail
        refine (hsm.out _ hf9).mono ?_
        rintro e wx ⟨rfl, hfx⟩
        go_wp2_with fail
        go_ret
        exact ⟨rfl, (f8.trans hf9).trans hfx⟩
      · have htx := Lib.hid (fun W (hW : Fr W3 W) => NText_err N A M d m i cs ca aN aA cc cN cA W (hc.out.fr (f3.trans hW)) hm.out.symm hN3.hM hN3.hd (by omega) (by have := hN3.m8; omega) (by omega) _ rfl hsp0 (fun V hV => (hN3.fr (hW.trans hV)).check (hGf.out _ (f3.trans (hW.trans hV)))))
        clear hN3
        obtain ⟨E, hEd⟩ : ∃ E, E = spE N A i cs := ⟨_, rfl⟩
        rw [← hEd] at hsp hsp0 htx
        have q1 : (E == 0) = false := beq_false_of_ne hsp0
        have q2 : (E != 0) = true := by rw [bne_iff_ne]; exact hsp0
        have q3 : (E == E) = true := beq_self_eq_true E
        replace hEd := Lib.hid hEd
        replace hsp0 := Lib.hid hsp0
        go_wp2_with fail
        refine (hk.out _ f3).mono ?_
        rintro e w4 ⟨rfl, hf4⟩
        replace n0 := hf4.keep n0
        replace n1 := hf4.keep n1
        replace s0 := hf4.keep s0
        replace s1 := hf4.keep s1
        go_wp2_with fail
        refine (htx.out _ hf4).mono ?_
        rintro e w5 ⟨rfl, hf5⟩
        have hf35 := hf4.trans hf5
        replace n0 := hf5.keep n0
        replace n1 := hf5.keep n1
        replace s0 := hf5.keep s0
        replace s1 := hf5.keep s1
        go_wp2_with fail
        refine (hsp.out _ hf35).mono ?_
        rintro e w6 ⟨rfl, hf6⟩
        go_wp2_with fail
        go_ret
        exact ⟨rfl, ((f3.trans hf35)).trans hf6⟩
end Go.Proofs.YtamffndlpminmaaGreatDoor
