/- Contracts of package whole at numbers that take the quick way. -/
import Derived.Test.YtphjfalibnnohaaGreatDoorG
import Derived.Test.YtphjfalibnnohaaGreatDoorShelf
import Derived.Lib.AtoiErrMem
import Derived.Lib.ParseIntBTie
namespace Go.Proofs.YtphjfalibnnohaaGreatDoor
open Go.RowKit Go.Lib Go.Sort

theorem fr_grow (w : World) (k : Nat) (os : Array Obj) : Fr w (grow (w.drewN k) os) := 
  (show Below w.heap.size w (grow (w.drewN k) os) from ⟨rfl, rfl, rfl, by simp [grow], fun i hi => by simp [grow, Array.getElem?_append, hi]⟩)

theorem fr_bytes {w w' : World} {e : TypeId} (h : w' = w ∨ ∃ t, w' = bytesWorld w e t) : Fr w w' := by
  rcases h with rfl | ⟨t, rfl⟩
  · exact Fr.refl _
  · exact bytesWorld_below w e t

theorem itoa_any (n : Int) (h0 : -9223372036854775808 ≤ n) (h1 : n ≤ 9223372036854775807) (w : World) (hG : G w) :
    Calls Tryz.prog 61 #[.int .i64 n] w fun e w' => e = .returned (.string (tx n)) ∧ Fr w w' :=
  (Tryz.strconv_Itoa n h0 h1 w hG).mono (by rintro e w' ⟨rfl, k, os, rfl⟩; exact ⟨rfl, fr_grow _ _ _⟩)

theorem atoi_any (n : Int) (h0 : -9223372036854775808 ≤ n) (h1 : n ≤ 9223372036854775807) (w : World) :
    Calls Tryz.prog 87 #[.string (tx n)] w fun e w' => e = .returned (.tuple #[.int .i64 n, .nilIface]) ∧ Fr w w' :=
  (Tryz.strconv_Atoi_ok (tx n) (by have := tx_size_le 19 n (by omega) (by omega); omega) n (atoiAll_itoa n h0 h1) w).mono (by rintro e w' ⟨rfl, h⟩; exact ⟨rfl, fr_bytes h⟩)

theorem Of_any (n : Int) (h0 : -9223372036854775808 ≤ n) (h1 : n ≤ 9223372036854775807) (w : World) (hG : G w) :
    Calls Tryz.prog 58 #[.int .i64 n] w fun e w' => e = .returned (.string (tx n)) ∧ Fr w w' := by
  go_enter Tryz.func58, Tryz.ntmps58
  go_wp2_with (go_at_call 61; refine (itoa_any _ h0 h1 _ hG).mono ?_; rintro e w' ⟨rfl, hf⟩)
  go_ret
  exact ⟨rfl, hf⟩

theorem split_ngQ (n : Int) (hn : n < 0) (w : World) (hs : (tx n).size ≤ 1000000000) :
    Calls Tryz.prog 159 #[.string (tx n)] w fun e w' => e = .returned (.tuple #[.bool true, .string (tx (-n))]) ∧ Qt w w' := by
  have h1 := tx_pos n
  have h2 := tx_head_ng hn h1
  have h3 := Lib.hid (tx_tail hn)
  generalize tx n = s at *
  go_enter Tryz.func159, Tryz.ntmps159
  go_wp2
  go_quiet (fail)
  go_wp2
  go_ret2
  exact ⟨by rw [h3.out]; rfl, by repeat (with_reducible first | assumption | exact Qt.refl _ | refine Qt.drew ?_ | refine Qt.drewN ?_ _ | refine Qt.trans ?_ (by assumption))⟩
theorem split_ng (n : Int) (hn : n < 0) (w : World) (hs : (tx n).size ≤ 1000000000) :
    Calls Tryz.prog 159 #[.string (tx n)] w fun e w' => e = .returned (.tuple #[.bool true, .string (tx (-n))]) ∧ Fr w w' :=
  (split_ngQ n hn w hs).mono fun _ _ ⟨h, k⟩ => ⟨h, k.fr⟩

theorem split_nnQ (n : Int) (hn : 0 ≤ n) (w : World) (_hs : (tx n).size ≤ 1000000000) :
    Calls Tryz.prog 159 #[.string (tx n)] w fun e w' => e = .returned (.tuple #[.bool false, .string (tx n)]) ∧ Qt w w' := by
  have h1 := tx_pos n
  have h2 := tx_head_nn hn h1
  generalize tx n = s at *
  go_enter Tryz.func159, Tryz.ntmps159
  go_wp2
  go_ret2
  exact ⟨rfl, Qt.refl _⟩
theorem split_nn (n : Int) (hn : 0 ≤ n) (w : World) (_hs : (tx n).size ≤ 1000000000) :
    Calls Tryz.prog 159 #[.string (tx n)] w fun e w' => e = .returned (.tuple #[.bool false, .string (tx n)]) ∧ Fr w w' :=
  (split_nnQ n hn w _hs).mono fun _ _ ⟨h, k⟩ => ⟨h, k.fr⟩

theorem join_any (b : Bool) (n : Int) (hn : 0 ≤ n) (w : World) (_hs : (tx n).size ≤ 1000000000) :
    Calls Tryz.prog 165 #[.bool b, .string (tx n)] w fun e w' => e = .returned (.string (tx (if b then -n else n))) ∧ w = w' := by
  cases b
  · go_enter Tryz.func165, Tryz.ntmps165
    go_wp2
    go_ret
    exact ⟨by simp, rfl⟩
  · by_cases h : n = 0
    · have hb : ((tx n).toList == [48]) = true := by rw [tx_beq0]; simp [h]
      have hh := Lib.hid h; clear h
      go_enter Tryz.func165, Tryz.ntmps165
      go_wp2
      go_ret
      exact ⟨by rw [hh.out]; rfl, rfl⟩
    · have hb : ((tx n).toList == [48]) = false := by rw [tx_beq0]; simp [h]
      have hj := Lib.hid (tx_join (n := n) (by omega)); clear h
      go_enter Tryz.func165, Tryz.ntmps165
      go_wp2
      go_ret
      exact ⟨by rw [hj.out]; rfl, rfl⟩

theorem little_ok (n most : Int) (h0 : -9223372036854775808 ≤ n) (h1 : n ≤ 9223372036854775807) (w : World) (hs : ((tx n).size : Int) ≤ most) :
    Calls Tryz.prog 161 #[.string (tx n), .int .i64 most] w fun e w' => e = .returned (.tuple #[.int .i64 n, .bool true]) ∧ Fr w w' := by
  go_enter Tryz.func161, Tryz.ntmps161
  go_wp2_with (go_at_call 87; refine (atoi_any _ h0 h1 _).mono ?_; rintro e w' ⟨rfl, hf⟩)
  go_quiet (fail)
  go_wp2
  go_ret2
  exact ⟨rfl, by repeat (with_reducible first | assumption | exact Fr.refl _ | refine Fr.drew ?_ | refine Fr.drewN ?_ _ | refine Fr.alloc ?_ _ | (refine Fr.setCell ?_ (by simp only [World.size_alloc, World.size_drew, World.size_setCell]; omega) _) | refine Fr.trans ?_ (by assumption))⟩

theorem little_no (n most : Int) (w : World) (hs : most < ((tx n).size : Int)) (_hb : (tx n).size ≤ 1000000000) :
    Calls Tryz.prog 161 #[.string (tx n), .int .i64 most] w fun e w' => e = .returned (.tuple #[.int .i64 0, .bool false]) ∧ w = w' := by
  go_enter Tryz.func161, Tryz.ntmps161
  go_wp2
  go_ret2
  exact ⟨rfl, rfl⟩

theorem Sign_any (n : Int) (w : World) :
    Calls Tryz.prog 133 #[.string (tx n)] w fun e w' => e = .returned (.int .i64 n.sign) ∧ w = w' := by
  have hp := tx_pos n
  have hb := tx_beq0 n
  rcases Int.lt_trichotomy n 0 with h | h | h
  · have h2 := tx_head_ng h hp
    rw [decide_eq_false (by omega)] at hb
    have hs := Lib.hid (Int.sign_eq_neg_one_of_neg h); clear h
    go_enter Tryz.func133, Tryz.ntmps133
    go_wp2
    go_ret
    exact ⟨by rw [hs.out]; rfl, rfl⟩
  · rw [decide_eq_true h] at hb
    have hs := Lib.hid h; clear h
    go_enter Tryz.func133, Tryz.ntmps133
    go_wp2
    go_ret
    exact ⟨by rw [hs.out]; rfl, rfl⟩
  · have h2 := tx_head_nn (by omega) hp
    rw [decide_eq_false (by omega)] at hb
    have hs := Lib.hid (Int.sign_eq_one_of_pos h); clear h
    go_enter Tryz.func133, Tryz.ntmps133
    go_wp2
    go_ret
    exact ⟨by rw [hs.out]; rfl, rfl⟩

/-- the sign of a comparison -/
def cmpI (a b : Int) : Int := if a < b then -1 else if b < a then 1 else 0
theorem ret_int {k : IntKind} {a b : Int} (h : a = b) : Ending.returned (.int k a) = Ending.returned (.int k b) := by rw [h]
theorem ret_str {a b : ByteArray} (h : a = b) : Ending.returned (.string a) = Ending.returned (.string b) := by rw [h]

theorem cmp_nat (u v : Nat) (w : World) (hu : nDigits u < 1000000000) (hv : nDigits v < 1000000000) :
    Calls Tryz.prog 160 #[.string (tx u), .string (tx v)] w fun e w' => e = .returned (.int .i64 (cmpI u v)) ∧ w = w' := by
  have su := tx_size_nat u
  have sv := tx_size_nat v
  have hl1 := tx_less u v
  have hl2 := tx_less v u
  have he := tx_beqs u v
  generalize hx : tx (u : Int) = s at *
  generalize hy : tx (v : Int) = t at *
  clear hx hy
  have hu' : s.size < 1000000000 := by omega
  have hv' : t.size < 1000000000 := by omega
  by_cases h : s.size = t.size
  · have l1 := hl1 h
    have l2 := hl2 h.symm
    have hne : ((s.size : Int) != t.size) = false := by rw [h]; simp
    clear hl1 hl2
    have h := Lib.hid h
    rcases Nat.lt_trichotomy u v with k | k | k
    · rw [decide_eq_true k] at l1
      have hh := Lib.hid k; clear l2 he k su sv
      go_enter Tryz.func160, Tryz.ntmps160
      go_wp2
      go_ret
      exact ⟨ret_int (by have := hh.out; unfold cmpI; rw [if_pos (by omega)]), rfl⟩
    · rw [decide_eq_false (by omega)] at l1 l2
      rw [decide_eq_true (by omega)] at he
      have hh := Lib.hid k; clear k su sv l2
      go_enter Tryz.func160, Tryz.ntmps160
      go_wp2
      go_ret
      exact ⟨ret_int (by have := hh.out; unfold cmpI; rw [if_neg (by omega), if_neg (by omega)]), rfl⟩
    · rw [decide_eq_false (by omega)] at l1
      rw [decide_eq_false (by omega)] at he
      have hh := Lib.hid k; clear k su sv l2
      go_enter Tryz.func160, Tryz.ntmps160
      go_wp2
      go_ret
      exact ⟨ret_int (by have := hh.out; unfold cmpI; rw [if_neg (by omega), if_pos (by omega)]), rfl⟩
  · have hne : ((s.size : Int) != t.size) = true := by rw [bne_iff_ne]; omega
    have k1 := lt_of_nDigits_lt u v
    have k2 := lt_of_nDigits_lt v u
    have k1 := Lib.hid k1
    have k2 := Lib.hid k2
    have hh := Lib.hid h
    have su := Lib.hid su
    have sv := Lib.hid sv
    clear hl1 hl2 he h
    rename_i k1' k2' su' sv'
    clear k1' k2' su' sv'
    go_enter Tryz.func160, Tryz.ntmps160
    go_wp2
    go_ret
    refine ⟨ret_int ?_, rfl⟩
    have k1 := k1.out; have k2 := k2.out; have hh := hh.out; have su := su.out; have sv := sv.out
    show min 1 (max (-1) ((s.size : Int) - t.size)) = _
    unfold cmpI
    by_cases q : s.size < t.size
    · rw [if_pos (by have := k1 (by omega); omega)]; omega
    · rw [if_neg (by have := k2 (by omega); omega), if_pos (by have := k2 (by omega); omega)]; omega

theorem Neg_anyQ (n : Int) (w : World) (hs : (tx n).size ≤ 1000000000) :
    Calls Tryz.prog 168 #[.string (tx n)] w fun e w' => e = .returned (.string (tx (-n))) ∧ Qt w w' := by
  by_cases h : n < 0
  · have hs' : (tx (-n)).size ≤ 1000000000 := by rw [← tx_tail h, ByteArray.size_extract]; omega
    go_enter Tryz.func168, Tryz.ntmps168
    go_wp2_with (first | (go_at_call 159; refine (split_ngQ _ h _ hs).mono ?_; rintro e w' ⟨rfl, hf⟩) | (go_at_call 165; refine (join_any false _ (by omega) _ hs').mono ?_; rintro e w' ⟨rfl, rfl⟩))
    go_ret
    exact ⟨by simp, by repeat (with_reducible first | assumption | exact Qt.refl _ | refine Qt.drew ?_ | refine Qt.drewN ?_ _ | refine Qt.trans ?_ (by assumption))⟩
  · go_enter Tryz.func168, Tryz.ntmps168
    go_wp2_with (first | (go_at_call 159; refine (split_nnQ _ (by omega) _ hs).mono ?_; rintro e w' ⟨rfl, hf⟩) | (go_at_call 165; refine (join_any true _ (by omega) _ hs).mono ?_; rintro e w' ⟨rfl, rfl⟩))
    go_ret
    exact ⟨by simp, by repeat (with_reducible first | assumption | exact Qt.refl _ | refine Qt.drew ?_ | refine Qt.drewN ?_ _ | refine Qt.trans ?_ (by assumption))⟩
theorem Neg_any (n : Int) (w : World) (hs : (tx n).size ≤ 1000000000) :
    Calls Tryz.prog 168 #[.string (tx n)] w fun e w' => e = .returned (.string (tx (-n))) ∧ Fr w w' :=
  (Neg_anyQ n w hs).mono fun _ _ ⟨h, k⟩ => ⟨h, k.fr⟩

theorem Abs_anyQ (n : Int) (w : World) (hs : (tx n).size ≤ 1000000000) :
    Calls Tryz.prog 130 #[.string (tx n)] w fun e w' => e = .returned (.string (tx (n.natAbs : Int))) ∧ Qt w w' := by
  by_cases h : n < 0
  · have e := Lib.hid (show (n.natAbs : Int) = -n by omega)
    go_enter Tryz.func130, Tryz.ntmps130
    go_wp2_with (go_at_call 159; refine (split_ngQ _ h _ hs).mono ?_; rintro e w' ⟨rfl, hf⟩)
    go_ret
    exact ⟨by rw [e.out]; rfl, by repeat (with_reducible first | assumption | exact Qt.refl _ | refine Qt.drew ?_ | refine Qt.drewN ?_ _ | refine Qt.trans ?_ (by assumption))⟩
  · have e := Lib.hid (show (n.natAbs : Int) = n by omega)
    go_enter Tryz.func130, Tryz.ntmps130
    go_wp2_with (go_at_call 159; refine (split_nnQ _ (by omega) _ hs).mono ?_; rintro e w' ⟨rfl, hf⟩)
    go_ret
    exact ⟨by rw [e.out]; rfl, by repeat (with_reducible first | assumption | exact Qt.refl _ | refine Qt.drew ?_ | refine Qt.drewN ?_ _ | refine Qt.trans ?_ (by assumption))⟩
theorem Abs_any (n : Int) (w : World) (hs : (tx n).size ≤ 1000000000) :
    Calls Tryz.prog 130 #[.string (tx n)] w fun e w' => e = .returned (.string (tx (n.natAbs : Int))) ∧ Fr w w' :=
  (Abs_anyQ n w hs).mono fun _ _ ⟨h, k⟩ => ⟨h, k.fr⟩

theorem cmp_int (a b : Int) (ha : 0 ≤ a) (hb : 0 ≤ b) (w : World) (hu : (tx a).size < 1000000000) (hv : (tx b).size < 1000000000) :
    Calls Tryz.prog 160 #[.string (tx a), .string (tx b)] w fun e w' => e = .returned (.int .i64 (cmpI a b)) ∧ w = w' := by
  obtain ⟨u, rfl⟩ := Int.eq_ofNat_of_zero_le ha
  obtain ⟨v, rfl⟩ := Int.eq_ofNat_of_zero_le hb
  exact cmp_nat u v w (by rw [← tx_size_nat]; exact hu) (by rw [← tx_size_nat]; exact hv)

theorem tx_neg_size (n : Int) (h : n < 0) : (tx (-n)).size + 1 = (tx n).size := by
  have := tx_pos n
  rw [← tx_tail h, ByteArray.size_extract]; omega

theorem Compare_anyQ (a b : Int) (w : World) (hu : (tx a).size < 1000000000) (hv : (tx b).size < 1000000000) :
    Calls Tryz.prog 129 #[.string (tx a), .string (tx b)] w fun e w' => e = .returned (.int .i64 (cmpI a b)) ∧ Qt w w' := by
  by_cases hs : a.sign = b.sign
  · have hne : (a.sign != b.sign) = false := by rw [hs]; simp
    have hs' := Lib.hid hs
    by_cases ha : a < 0
    · have hb : b < 0 := by
        rw [Int.sign_eq_neg_one_of_neg ha] at hs
        exact Int.sign_eq_neg_one_iff_neg.1 hs.symm
      have sa := tx_neg_size a ha
      have sb := tx_neg_size b hb
      clear hs
      go_enter Tryz.func129, Tryz.ntmps129
      go_wp2_with fail
      refine (Sign_any a _).mono ?_; rintro e w' ⟨rfl, rfl⟩
      go_wp2_with fail
      refine (Sign_any b _).mono ?_; rintro e w' ⟨rfl, rfl⟩
      go_wp2_with fail
      refine (split_ngQ a ha _ (by omega)).mono ?_; rintro e w1 ⟨rfl, hf1⟩
      go_wp2_with fail
      refine (split_ngQ b hb _ (by omega)).mono ?_; rintro e w2 ⟨rfl, hf2⟩
      go_wp2_with fail
      refine (cmp_int (-b) (-a) (by omega) (by omega) _ (by omega) (by omega)).mono ?_; rintro e w' ⟨rfl, rfl⟩
      go_wp2_with fail
      go_ret
      exact ⟨ret_int (by unfold cmpI; split <;> split <;> omega), by repeat (with_reducible first | assumption | exact Qt.refl _ | refine Qt.drew ?_ | refine Qt.drewN ?_ _ | refine Qt.trans ?_ (by assumption))⟩
    · have hb : ¬ b < 0 := by
        intro hb
        rw [Int.sign_eq_neg_one_of_neg hb] at hs
        exact ha (Int.sign_eq_neg_one_iff_neg.1 hs)
      clear hs
      go_enter Tryz.func129, Tryz.ntmps129
      go_wp2_with fail
      refine (Sign_any a _).mono ?_; rintro e w' ⟨rfl, rfl⟩
      go_wp2_with fail
      refine (Sign_any b _).mono ?_; rintro e w' ⟨rfl, rfl⟩
      go_wp2_with fail
      refine (split_nnQ a (by omega) _ (by omega)).mono ?_; rintro e w1 ⟨rfl, hf1⟩
      go_wp2_with fail
      refine (split_nnQ b (by omega) _ (by omega)).mono ?_; rintro e w2 ⟨rfl, hf2⟩
      go_wp2_with fail
      refine (cmp_int a b (by omega) (by omega) _ hu hv).mono ?_; rintro e w' ⟨rfl, rfl⟩
      go_wp2_with fail
      go_ret
      exact ⟨rfl, by repeat (with_reducible first | assumption | exact Qt.refl _ | refine Qt.drew ?_ | refine Qt.drewN ?_ _ | refine Qt.trans ?_ (by assumption))⟩
  · have hne : (a.sign != b.sign) = true := by rw [bne_iff_ne]; exact hs
    by_cases hl : a.sign < b.sign
    · have hd : decide (a.sign < b.sign) = true := decide_eq_true hl
      have hc : a < b := by
        rcases Int.lt_trichotomy a b with h | h | h
        · exact h
        · subst h; exact absurd rfl hs
        · exfalso
          have s1 : 0 ≤ a - b := by omega
          rcases Int.lt_trichotomy a 0 with p | p | p <;> rcases Int.lt_trichotomy b 0 with q | q | q <;>
            simp [Int.sign_eq_neg_one_of_neg, Int.sign_eq_one_of_pos, *] at hl <;> omega
      have hc := Lib.hid hc
      clear hs
      go_enter Tryz.func129, Tryz.ntmps129
      go_wp2_with fail
      refine (Sign_any a _).mono ?_; rintro e w' ⟨rfl, rfl⟩
      go_wp2_with fail
      refine (Sign_any b _).mono ?_; rintro e w' ⟨rfl, rfl⟩
      go_wp2_with fail
      go_ret
      exact ⟨ret_int (by have := hc.out; unfold cmpI; rw [if_pos this]), by repeat (with_reducible first | assumption | exact Qt.refl _ | refine Qt.drew ?_ | refine Qt.drewN ?_ _ | refine Qt.trans ?_ (by assumption))⟩
    · have hd : decide (a.sign < b.sign) = false := decide_eq_false hl
      have hc : b < a := by
        rcases Int.lt_trichotomy a b with h | h | h
        · exfalso
          rcases Int.lt_trichotomy a 0 with p | p | p <;> rcases Int.lt_trichotomy b 0 with q | q | q <;>
            simp [Int.sign_eq_neg_one_of_neg, Int.sign_eq_one_of_pos, *] at hl hs <;> omega
        · subst h; exact absurd rfl hs
        · exact h
      have hc := Lib.hid hc
      clear hs
      go_enter Tryz.func129, Tryz.ntmps129
      go_wp2_with fail
      refine (Sign_any a _).mono ?_; rintro e w' ⟨rfl, rfl⟩
      go_wp2_with fail
      refine (Sign_any b _).mono ?_; rintro e w' ⟨rfl, rfl⟩
      go_wp2_with fail
      go_ret
      exact ⟨ret_int (by have := hc.out; unfold cmpI; rw [if_neg (by omega), if_pos this]), by repeat (with_reducible first | assumption | exact Qt.refl _ | refine Qt.drew ?_ | refine Qt.drewN ?_ _ | refine Qt.trans ?_ (by assumption))⟩
theorem Compare_any (a b : Int) (w : World) (hu : (tx a).size < 1000000000) (hv : (tx b).size < 1000000000) :
    Calls Tryz.prog 129 #[.string (tx a), .string (tx b)] w fun e w' => e = .returned (.int .i64 (cmpI a b)) ∧ Fr w w' :=
  (Compare_anyQ a b w hu hv).mono fun _ _ ⟨h, k⟩ => ⟨h, k.fr⟩


/-- of at most 17 digits -/
def Sm (n : Int) : Prop := -100000000000000000 < n ∧ n < 100000000000000000
/-- of at most 8 digits -/
def Ti (n : Int) : Prop := -100000000 < n ∧ n < 100000000
theorem Sm.size {n : Int} (h : Sm n) : (tx n).size ≤ 18 := by
  obtain ⟨h1, h2⟩ := h
  exact tx_size_le 17 n (by omega) (by omega)
theorem Ti.size {n : Int} (h : Ti n) : (tx n).size ≤ 9 := by
  obtain ⟨h1, h2⟩ := h
  exact tx_size_le 8 n (by omega) (by omega)
theorem Ti.sm {n : Int} (h : Ti n) : Sm n := by
  obtain ⟨h1, h2⟩ := h
  exact ⟨by omega, by omega⟩

theorem Add_sm (a b : Int) (ha : Sm a) (hb : Sm b) (w : World) (hG : G w) :
    Calls Tryz.prog 190 #[.string (tx a), .string (tx b)] w fun e w' => e = .returned (.string (tx (a + b))) ∧ Fr w w' := by
  have sa := ha.size
  have sb := hb.size
  obtain ⟨a1, a2⟩ := ha
  obtain ⟨b1, b2⟩ := hb
  go_enter Tryz.func190, Tryz.ntmps190
  go_wp2_with fail
  refine (little_ok a 18 (by omega) (by omega) _ (by omega)).mono ?_; rintro e w1 ⟨rfl, hf1⟩
  go_wp2_with fail
  refine (little_ok b 18 (by omega) (by omega) _ (by omega)).mono ?_; rintro e w2 ⟨rfl, hf2⟩
  go_wp2_with fail
  refine (Of_any _ (by omega) (by omega) _ (hG.fr (hf1.trans hf2))).mono ?_; rintro e w3 ⟨rfl, hf3⟩
  go_wp2_with fail
  go_ret
  exact ⟨rfl, (hf1.trans hf2).trans hf3⟩

theorem Sub_sm (a b : Int) (ha : Sm a) (hb : Sm b) (w : World) (hG : G w) :
    Calls Tryz.prog 166 #[.string (tx a), .string (tx b)] w fun e w' => e = .returned (.string (tx (a - b))) ∧ Fr w w' := by
  have sb := hb.size
  go_enter Tryz.func166, Tryz.ntmps166
  go_wp2_with fail
  refine (Neg_any b _ (by omega)).mono ?_; rintro e w1 ⟨rfl, hf1⟩
  go_wp2_with fail
  refine (Add_sm a (-b) ha (by obtain ⟨b1, b2⟩ := hb; exact ⟨by omega, by omega⟩) _ (hG.fr hf1)).mono ?_; rintro e w2 ⟨rfl, hf2⟩
  go_wp2_with fail
  go_ret
  exact ⟨by rw [Int.sub_eq_add_neg]; rfl, hf1.trans hf2⟩

theorem mul_bd {a b : Int} (ha : Ti a) (hb : Ti b) : -10000000000000000 ≤ a * b ∧ a * b ≤ 10000000000000000 := by
  obtain ⟨a1, a2⟩ := ha
  obtain ⟨b1, b2⟩ := hb
  have h : a.natAbs * b.natAbs ≤ 100000000 * 100000000 := Nat.mul_le_mul (by omega) (by omega)
  rw [← Int.natAbs_mul] at h
  omega

theorem Mul_ti (a b : Int) (ha : Ti a) (hb : Ti b) (w : World) (hG : G w) :
    Calls Tryz.prog 167 #[.string (tx a), .string (tx b)] w fun e w' => e = .returned (.string (tx (a * b))) ∧ Fr w w' := by
  have sa := ha.size
  have sb := hb.size
  obtain ⟨m1, m2⟩ := mul_bd ha hb
  obtain ⟨a1, a2⟩ := ha
  obtain ⟨b1, b2⟩ := hb
  go_enter Tryz.func167, Tryz.ntmps167
  go_wp2_with fail
  refine (little_ok a 9 (by omega) (by omega) _ (by omega)).mono ?_; rintro e w1 ⟨rfl, hf1⟩
  go_wp2_with fail
  refine (little_ok b 9 (by omega) (by omega) _ (by omega)).mono ?_; rintro e w2 ⟨rfl, hf2⟩
  go_wp2_with fail
  refine (Of_any _ (by omega) (by omega) _ (hG.fr (hf1.trans hf2))).mono ?_; rintro e w3 ⟨rfl, hf3⟩
  go_wp2_with fail
  go_ret
  exact ⟨rfl, (hf1.trans hf2).trans hf3⟩

theorem tmod_abs (a b : Int) (hb : b ≠ 0) : (a.tmod b).natAbs < b.natAbs := by
  rw [Int.natAbs_tmod]; exact Nat.mod_lt _ (by omega)

/-- dividing downward by way of truncated division -/
theorem fdiv_same (a b : Int) (hb : b ≠ 0) (h : a.tmod b = 0 ∨ (a.tmod b < 0 ↔ b < 0)) : a.fdiv b = a.tdiv b ∧ a.fmod b = a.tmod b := by
  have e := Int.mul_tdiv_add_tmod a b
  have m := tmod_abs a b hb
  rcases Int.lt_or_gt_of_ne hb with h1 | h1
  · exact (Int.fdiv_fmod_unique' h1).2 ⟨by omega, by omega, by omega⟩
  · exact (Int.fdiv_fmod_unique h1).2 ⟨by omega, by omega, by omega⟩
theorem fdiv_less (a b : Int) (hb : b ≠ 0) (h0 : a.tmod b ≠ 0) (h : ¬ (a.tmod b < 0 ↔ b < 0)) : a.fdiv b = a.tdiv b - 1 ∧ a.fmod b = a.tmod b + b := by
  have e := Int.mul_tdiv_add_tmod a b
  have m := tmod_abs a b hb
  have e2 : b * (a.tdiv b - 1) = b * a.tdiv b - b := by rw [Int.mul_sub, Int.mul_one]
  rcases Int.lt_or_gt_of_ne hb with h1 | h1
  · exact (Int.fdiv_fmod_unique' h1).2 ⟨by omega, by omega, by omega⟩
  · exact (Int.fdiv_fmod_unique h1).2 ⟨by omega, by omega, by omega⟩

theorem tdiv_abs (a b : Int) : (a.tdiv b).natAbs ≤ a.natAbs := by
  rw [Int.natAbs_tdiv]; exact Nat.div_le_self _ _

theorem DivMod_sm (a b : Int) (ha : Sm a) (hb : Sm b) (h0 : b ≠ 0) (w : World) (hG : G w) :
    Calls Tryz.prog 131 #[.string (tx a), .string (tx b)] w fun e w' => e = .returned (.tuple #[.string (tx (a.fdiv b)), .string (tx (a.fmod b)), .int .i64 0]) ∧ Fr w w' := by
  have sa := ha.size
  have sb := hb.size
  have hz : ((tx b).toList == [48]) = false := by rw [tx_beq0]; exact decide_eq_false h0
  obtain ⟨a1, a2⟩ := ha
  obtain ⟨b1, b2⟩ := hb
  have td := tdiv_abs a b
  have tm := tmod_abs a b h0
  have k1 : IntKind.i64.wrap (a.tdiv b) = a.tdiv b := IntWalk.i64_in _ (by omega)
  have k2 : IntKind.i64.wrap (a.tmod b) = a.tmod b := IntWalk.i64_in _ (by omega)
  by_cases hr0 : a.tmod b = 0
  · have hfin := Lib.hid (show a.fdiv b = a.tdiv b ∧ a.fmod b = 0 from by have := fdiv_same a b h0 (.inl hr0); rw [hr0] at this; exact this)
    have c1 : (a.tmod b != 0) = false := by rw [hr0]; rfl
    have tm1 : -100000000000000000 < a.tmod b ∧ a.tmod b < 100000000000000000 := by omega
    have td1 : -100000000000000000 < a.tdiv b ∧ a.tdiv b < 100000000000000000 := by omega
    obtain ⟨tm1, tm2⟩ := tm1
    obtain ⟨td1, td2⟩ := td1
    clear td tm
    go_enter Tryz.func131, Tryz.ntmps131
    go_wp2_with fail
    refine (little_ok a 18 (by omega) (by omega) _ (by omega)).mono ?_; rintro e w1 ⟨rfl, hf1⟩
    go_wp2_with fail
    refine (little_ok b 18 (by omega) (by omega) _ (by omega)).mono ?_; rintro e w2 ⟨rfl, hf2⟩
    go_wp2_with fail
    go_quiet (fail)
    clear k1 k2
    have hfq := hf1.trans hf2
    go_wp2_with fail
    refine (Of_any _ (by omega) (by omega) _ (hG.fr (by repeat (with_reducible first | assumption | exact Fr.refl _ | refine Fr.drew ?_ | refine Fr.drewN ?_ _ | refine Fr.alloc ?_ _ | (refine Fr.setCell ?_ (by simp only [World.size_alloc, World.size_drew, World.size_setCell]; omega) _) | refine Fr.trans ?_ (by assumption))))).mono ?_; rintro e w3 ⟨rfl, hf3⟩
    go_wp2_with fail
    refine (Of_any _ (by omega) (by omega) _ (hG.fr (by repeat (with_reducible first | assumption | exact Fr.refl _ | refine Fr.drew ?_ | refine Fr.drewN ?_ _ | refine Fr.alloc ?_ _ | (refine Fr.setCell ?_ (by simp only [World.size_alloc, World.size_drew, World.size_setCell]; omega) _) | refine Fr.trans ?_ (by assumption))))).mono ?_; rintro e w4 ⟨rfl, hf4⟩
    go_wp2_with fail
    go_ret3
    exact ⟨by rw [hfin.out.1, hfin.out.2]; rfl, by repeat (with_reducible first | assumption | exact Fr.refl _ | refine Fr.drew ?_ | refine Fr.drewN ?_ _ | refine Fr.alloc ?_ _ | (refine Fr.setCell ?_ (by simp only [World.size_alloc, World.size_drew, World.size_setCell]; omega) _) | refine Fr.trans ?_ (by assumption))⟩
  · have c1 : (a.tmod b != 0) = true := by rw [bne_iff_ne]; exact hr0
    by_cases hr : a.tmod b < 0 <;> by_cases hb : b < 0
    · have hfin := Lib.hid (fdiv_same a b h0 (.inr (by simp [hr, hb])))
      have c2 : (decide (a.tmod b < 0)) = true := decide_eq_true hr
      have c3 : (decide (b < 0)) = true := decide_eq_true hb
      have tm1 : -100000000000000000 < a.tmod b := by omega
      have tm2 : a.tmod b < 100000000000000000 := by omega
      have td1 : -100000000000000000 < a.tdiv b := by omega
      have td2 : a.tdiv b < 100000000000000000 := by omega
      clear td tm hr0 hr hb
      go_enter Tryz.func131, Tryz.ntmps131
      go_wp2_with fail
      refine (little_ok a 18 (by omega) (by omega) _ (by omega)).mono ?_; rintro e w1 ⟨rfl, hf1⟩
      go_wp2_with fail
      refine (little_ok b 18 (by omega) (by omega) _ (by omega)).mono ?_; rintro e w2 ⟨rfl, hf2⟩
      go_wp2_with fail
      go_quiet (fail)
      clear k1 k2
      have hfq := hf1.trans hf2
      go_wp2_with fail
      refine (Of_any _ (by omega) (by omega) _ (hG.fr (by repeat (with_reducible first | assumption | exact Fr.refl _ | refine Fr.drew ?_ | refine Fr.drewN ?_ _ | refine Fr.alloc ?_ _ | (refine Fr.setCell ?_ (by simp only [World.size_alloc, World.size_drew, World.size_setCell]; omega) _) | refine Fr.trans ?_ (by assumption))))).mono ?_; rintro e w3 ⟨rfl, hf3⟩
      go_wp2_with fail
      refine (Of_any _ (by omega) (by omega) _ (hG.fr (by repeat (with_reducible first | assumption | exact Fr.refl _ | refine Fr.drew ?_ | refine Fr.drewN ?_ _ | refine Fr.alloc ?_ _ | (refine Fr.setCell ?_ (by simp only [World.size_alloc, World.size_drew, World.size_setCell]; omega) _) | refine Fr.trans ?_ (by assumption))))).mono ?_; rintro e w4 ⟨rfl, hf4⟩
      go_wp2_with fail
      go_ret3
      exact ⟨by rw [hfin.out.1, hfin.out.2]; rfl, by repeat (with_reducible first | assumption | exact Fr.refl _ | refine Fr.drew ?_ | refine Fr.drewN ?_ _ | refine Fr.alloc ?_ _ | (refine Fr.setCell ?_ (by simp only [World.size_alloc, World.size_drew, World.size_setCell]; omega) _) | refine Fr.trans ?_ (by assumption))⟩
    · have hfin := Lib.hid (fdiv_less a b h0 hr0 (by simp [hr, hb]))
      have c2 : (decide (a.tmod b < 0)) = true := decide_eq_true hr
      have c3 : (decide (b < 0)) = false := decide_eq_false hb
      have tm1 : -100000000000000000 < a.tmod b := by omega
      have tm2 : a.tmod b < 100000000000000000 := by omega
      have td1 : -100000000000000000 < a.tdiv b := by omega
      have td2 : a.tdiv b < 100000000000000000 := by omega
      clear td tm hr0 hr hb
      go_enter Tryz.func131, Tryz.ntmps131
      go_wp2_with fail
      refine (little_ok a 18 (by omega) (by omega) _ (by omega)).mono ?_; rintro e w1 ⟨rfl, hf1⟩
      go_wp2_with fail
      refine (little_ok b 18 (by omega) (by omega) _ (by omega)).mono ?_; rintro e w2 ⟨rfl, hf2⟩
      go_wp2_with fail
      go_quiet (fail)
      clear k1 k2
      have hfq := hf1.trans hf2
      go_wp2_with fail
      refine (Of_any _ (by omega) (by omega) _ (hG.fr (by repeat (with_reducible first | assumption | exact Fr.refl _ | refine Fr.drew ?_ | refine Fr.drewN ?_ _ | refine Fr.alloc ?_ _ | (refine Fr.setCell ?_ (by simp only [World.size_alloc, World.size_drew, World.size_setCell]; omega) _) | refine Fr.trans ?_ (by assumption))))).mono ?_; rintro e w3 ⟨rfl, hf3⟩
      go_wp2_with fail
      refine (Of_any _ (by omega) (by omega) _ (hG.fr (by repeat (with_reducible first | assumption | exact Fr.refl _ | refine Fr.drew ?_ | refine Fr.drewN ?_ _ | refine Fr.alloc ?_ _ | (refine Fr.setCell ?_ (by simp only [World.size_alloc, World.size_drew, World.size_setCell]; omega) _) | refine Fr.trans ?_ (by assumption))))).mono ?_; rintro e w4 ⟨rfl, hf4⟩
      go_wp2_with fail
      go_ret3
      exact ⟨by rw [hfin.out.1, hfin.out.2]; rfl, by repeat (with_reducible first | assumption | exact Fr.refl _ | refine Fr.drew ?_ | refine Fr.drewN ?_ _ | refine Fr.alloc ?_ _ | (refine Fr.setCell ?_ (by simp only [World.size_alloc, World.size_drew, World.size_setCell]; omega) _) | refine Fr.trans ?_ (by assumption))⟩
    · have hfin := Lib.hid (fdiv_less a b h0 hr0 (by simp [hr, hb]))
      have c2 : (decide (a.tmod b < 0)) = false := decide_eq_false hr
      have c3 : (decide (b < 0)) = true := decide_eq_true hb
      have tm1 : -100000000000000000 < a.tmod b := by omega
      have tm2 : a.tmod b < 100000000000000000 := by omega
      have td1 : -100000000000000000 < a.tdiv b := by omega
      have td2 : a.tdiv b < 100000000000000000 := by omega
      clear td tm hr0 hr hb
      go_enter Tryz.func131, Tryz.ntmps131
      go_wp2_with fail
      refine (little_ok a 18 (by omega) (by omega) _ (by omega)).mono ?_; rintro e w1 ⟨rfl, hf1⟩
      go_wp2_with fail
      refine (little_ok b 18 (by omega) (by omega) _ (by omega)).mono ?_; rintro e w2 ⟨rfl, hf2⟩
      go_wp2_with fail
      go_quiet (fail)
      clear k1 k2
      have hfq := hf1.trans hf2
      go_wp2_with fail
      refine (Of_any _ (by omega) (by omega) _ (hG.fr (by repeat (with_reducible first | assumption | exact Fr.refl _ | refine Fr.drew ?_ | refine Fr.drewN ?_ _ | refine Fr.alloc ?_ _ | (refine Fr.setCell ?_ (by simp only [World.size_alloc, World.size_drew, World.size_setCell]; omega) _) | refine Fr.trans ?_ (by assumption))))).mono ?_; rintro e w3 ⟨rfl, hf3⟩
      go_wp2_with fail
      refine (Of_any _ (by omega) (by omega) _ (hG.fr (by repeat (with_reducible first | assumption | exact Fr.refl _ | refine Fr.drew ?_ | refine Fr.drewN ?_ _ | refine Fr.alloc ?_ _ | (refine Fr.setCell ?_ (by simp only [World.size_alloc, World.size_drew, World.size_setCell]; omega) _) | refine Fr.trans ?_ (by assumption))))).mono ?_; rintro e w4 ⟨rfl, hf4⟩
      go_wp2_with fail
      go_ret3
      exact ⟨by rw [hfin.out.1, hfin.out.2]; rfl, by repeat (with_reducible first | assumption | exact Fr.refl _ | refine Fr.drew ?_ | refine Fr.drewN ?_ _ | refine Fr.alloc ?_ _ | (refine Fr.setCell ?_ (by simp only [World.size_alloc, World.size_drew, World.size_setCell]; omega) _) | refine Fr.trans ?_ (by assumption))⟩
    · have hfin := Lib.hid (fdiv_same a b h0 (.inr (by simp [hr, hb])))
      have c2 : (decide (a.tmod b < 0)) = false := decide_eq_false hr
      have c3 : (decide (b < 0)) = false := decide_eq_false hb
      have tm1 : -100000000000000000 < a.tmod b := by omega
      have tm2 : a.tmod b < 100000000000000000 := by omega
      have td1 : -100000000000000000 < a.tdiv b := by omega
      have td2 : a.tdiv b < 100000000000000000 := by omega
      clear td tm hr0 hr hb
      go_enter Tryz.func131, Tryz.ntmps131
      go_wp2_with fail
      refine (little_ok a 18 (by omega) (by omega) _ (by omega)).mono ?_; rintro e w1 ⟨rfl, hf1⟩
      go_wp2_with fail
      refine (little_ok b 18 (by omega) (by omega) _ (by omega)).mono ?_; rintro e w2 ⟨rfl, hf2⟩
      go_wp2_with fail
      go_quiet (fail)
      clear k1 k2
      have hfq := hf1.trans hf2
      go_wp2_with fail
      refine (Of_any _ (by omega) (by omega) _ (hG.fr (by repeat (with_reducible first | assumption | exact Fr.refl _ | refine Fr.drew ?_ | refine Fr.drewN ?_ _ | refine Fr.alloc ?_ _ | (refine Fr.setCell ?_ (by simp only [World.size_alloc, World.size_drew, World.size_setCell]; omega) _) | refine Fr.trans ?_ (by assumption))))).mono ?_; rintro e w3 ⟨rfl, hf3⟩
      go_wp2_with fail
      refine (Of_any _ (by omega) (by omega) _ (hG.fr (by repeat (with_reducible first | assumption | exact Fr.refl _ | refine Fr.drew ?_ | refine Fr.drewN ?_ _ | refine Fr.alloc ?_ _ | (refine Fr.setCell ?_ (by simp only [World.size_alloc, World.size_drew, World.size_setCell]; omega) _) | refine Fr.trans ?_ (by assumption))))).mono ?_; rintro e w4 ⟨rfl, hf4⟩
      go_wp2_with fail
      go_ret3
      exact ⟨by rw [hfin.out.1, hfin.out.2]; rfl, by repeat (with_reducible first | assumption | exact Fr.refl _ | refine Fr.drew ?_ | refine Fr.drewN ?_ _ | refine Fr.alloc ?_ _ | (refine Fr.setCell ?_ (by simp only [World.size_alloc, World.size_drew, World.size_setCell]; omega) _) | refine Fr.trans ?_ (by assumption))⟩

/-! ### whole.Small -/
theorem parseIntB_itoa (n : Int) (h0 : -9223372036854775808 ≤ n) (h1 : n ≤ 9223372036854775807) : parseIntB 64 (tx n).data.toList = .ok n := by
  rw [parseIntB_64]; exact atoiAll_itoa n h0 h1
theorem Small_ok (n : Int) (h0 : -9223372036854775808 ≤ n) (h1 : n ≤ 9223372036854775807) (w : World) :
    Calls Tryz.prog 122 #[.string (tx n)] w fun e w' => e = .returned (.tuple #[.int .i64 n, .bool true]) ∧ Fr w w' := by
  have hs := tx_size_le 19 n (by omega) (by omega)
  go_enter Tryz.func122, Tryz.ntmps122
  go_wp2_with fail
  refine (Tryz.strconv_ParseInt_10_at64_ok (tx n) (by omega) n (parseIntB_itoa n h0 h1) _).mono ?_; rintro e w1 ⟨rfl, hw⟩
  have hf := fr_bytes hw; clear hw
  go_wp2_with fail
  go_ret2
  exact ⟨rfl, hf⟩
end Go.Proofs.YtphjfalibnnohaaGreatDoor
