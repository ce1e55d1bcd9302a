/- Plain facts on the decimal texts of integers. No program in sight. -/
import Derived.Lib.AtoiAll
import Derived.Lib.ItoaLen
import Derived.Lib.ItoaMem
import Derived.Lib.ParseIntB
import GoSem.Op.String
import Derived.Laws.Strings
namespace Go.Proofs.YtphjfalibnnohaaGreatDoor
open Go.Lib

/-- the text of an integer -/
def tx (n : Int) : ByteArray := ⟨(itoa n).toArray⟩

/-- the number that digits spell -/
def digVal (acc : Nat) : List UInt8 → Nat
  | [] => acc
  | c :: r => digVal (acc * 10 + (c.toNat - 48)) r

theorem digVal_append (l m : List UInt8) (a : Nat) : digVal a (l ++ m) = digVal (digVal a l) m := by
  induction l generalizing a with
  | nil => rfl
  | cons c r ih => exact ih _

theorem dig_toNat (k : Nat) (h : k < 10) : (UInt8.ofNat (48 + k)).toNat = 48 + k := by
  rw [UInt8.toNat_ofNat']
  exact Nat.mod_eq_of_lt (Nat.lt_of_lt_of_le (show 48 + k < 58 by omega) (by decide))

theorem digVal_dec (u : Nat) : digVal 0 (decDigits u) = u := by
  induction u using Nat.strongRecOn with
  | _ u ih =>
    by_cases h : u < 10
    · rw [decDigits, dif_pos h]
      show 0 * 10 + ((UInt8.ofNat (48 + u)).toNat - 48) = u
      rw [dig_toNat u h]; omega
    · rw [decDigits, dif_neg h, digVal_append, ih (u / 10) (by omega)]
      show u / 10 * 10 + ((UInt8.ofNat (48 + u % 10)).toNat - 48) = u
      rw [dig_toNat (u % 10) (by omega)]; omega

theorem dec_digits (u : Nat) : ∀ c ∈ decDigits u, 48 ≤ c.toNat ∧ c.toNat ≤ 57 := by
  induction u using Nat.strongRecOn with
  | _ u ih =>
    by_cases h : u < 10
    · rw [decDigits, dif_pos h]; intro c hc
      simp only [List.mem_singleton] at hc; subst hc; rw [dig_toNat u h]; omega
    · rw [decDigits, dif_neg h]; intro c hc
      rcases List.mem_append.1 hc with hc | hc
      · exact ih (u / 10) (by omega) c hc
      · simp only [List.mem_singleton] at hc; subst hc; rw [dig_toNat (u % 10) (by omega)]; omega

theorem dec_ne (u : Nat) : decDigits u ≠ [] := by
  intro h
  have := decDigits_length u
  rw [h] at this
  have := nDigits_pos u
  simp at *; omega

theorem dec_inj {u v : Nat} (h : decDigits u = decDigits v) : u = v := by
  have := digVal_dec u; rw [h, digVal_dec] at this; exact this.symm

theorem itoa_inj {n m : Int} (h : itoa n = itoa m) : n = m := by
  unfold itoa at h
  have hd : ∀ u c r, decDigits u = c :: r → 48 ≤ c.toNat := fun u c r e => (dec_digits u c (by rw [e]; simp)).1
  split at h <;> split at h
  · injection h with _ h; have := dec_inj h; omega
  · have := hd _ _ _ h.symm; simp at this
  · have := hd _ _ _ h; simp at this
  · have := dec_inj h; omega

theorem tx_inj {n m : Int} (h : tx n = tx m) : n = m := by
  unfold tx at h
  injection h with h
  exact itoa_inj (by simpa using congrArg Array.toList h)

theorem tx_list (n : Int) : (tx n).data.toList = itoa n := by simp [tx]
theorem tx_size (n : Int) : (tx n).size = (itoa n).length := by simp [tx, ByteArray.size]

theorem itoa_nn {n : Int} (h : 0 ≤ n) : itoa n = decDigits n.toNat := by unfold itoa; rw [if_neg (by omega)]
theorem itoa_ng {n : Int} (h : n < 0) : itoa n = 45 :: decDigits n.natAbs := by unfold itoa; rw [if_pos h]

theorem itoa_len_pos (n : Int) : 0 < (itoa n).length := by
  by_cases h : n < 0
  · rw [itoa_ng h]; simp
  · rw [itoa_nn (by omega)]; exact List.length_pos_iff.2 (dec_ne _)

theorem tx_pos (n : Int) : 0 < (tx n).size := by rw [tx_size]; exact itoa_len_pos n

theorem nDigits_le (k u : Nat) (hk : 1 ≤ k) (h : u < 10 ^ k) : nDigits u ≤ k := by
  induction k generalizing u with
  | zero => omega
  | succ k ih =>
    by_cases h9 : u < 10
    · rw [nDigits_small h9]; omega
    · rw [nDigits_big h9]
      by_cases hk0 : k = 0
      · subst hk0; simp at h; omega
      · have := ih (u / 10) (by omega) (by rw [Nat.pow_succ] at h; omega)
        omega

theorem tx_size_le (k : Nat) (n : Int) (hk : 1 ≤ k) (h : n.natAbs < 10 ^ k) : (tx n).size ≤ k + 1 := by
  rw [tx_size]
  by_cases h0 : n < 0
  · rw [itoa_ng h0]; have := nDigits_le k n.natAbs hk h; simp [decDigits_length]; omega
  · rw [itoa_nn (by omega), decDigits_length]
    have := nDigits_le k n.toNat hk (by omega); omega

theorem tx_get {n : Int} {c : UInt8} {r : List UInt8} (h : itoa n = c :: r) (hp : 0 < (tx n).size) : (tx n)[0]'hp = c := by
  have e : (tx n).data = (c :: r).toArray := by simp [tx, h]
  show (tx n).data[0] = c
  simp [e]

theorem tx_head_ng {n : Int} (h : n < 0) (hp : 0 < (tx n).size) : ((((tx n)[0]'hp).toNat : Int) == 45) = true := by
  rw [tx_get (itoa_ng h) hp]; rfl

theorem tx_head_nn {n : Int} (h : 0 ≤ n) (hp : 0 < (tx n).size) : ((((tx n)[0]'hp).toNat : Int) == 45) = false := by
  cases e : itoa n with
  | nil => have := itoa_len_pos n; rw [e] at this; simp at this
  | cons c r =>
    rw [tx_get e hp]
    have e2 := itoa_nn h
    have := (dec_digits n.toNat c (by rw [← e2, e]; simp)).1
    simp; omega

theorem ba_ext {a b : ByteArray} (h : a.data.toList = b.data.toList) : a = b := by
  cases a; cases b; congr; exact Array.toList_inj.1 h

theorem tx_tail {n : Int} (h : n < 0) : (tx n).extract 1 (tx n).size = tx (-n) := by
  refine ba_ext ?_
  have h1 : itoa n = 45 :: itoa (-n) := by
    rw [itoa_ng h, itoa_nn (by omega)]; congr 2; omega
  rw [tx_list, ByteArray.data_extract, Array.toList_extract]
  have e : (tx n).data.toList = 45 :: itoa (-n) := by rw [tx_list, h1]
  have e2 : (tx n).size = (itoa (-n)).length + 1 := by rw [tx_size, h1]; rfl
  rw [e, e2]; simp [List.extract]

theorem tx_join {n : Int} (h : 0 < n) : (⟨#[45]⟩ : ByteArray) ++ tx n = tx (-n) := by
  refine ba_ext ?_
  rw [tx_list, itoa_ng (by omega), ByteArray.data_append, Array.toList_append, tx_list, itoa_nn (by omega)]
  simp; congr 1; omega

theorem tx_zero : tx 0 = ⟨#[48]⟩ := by decide +kernel
theorem tx_one : tx 1 = ⟨#[49]⟩ := by decide +kernel
theorem tx_m1 : tx (-1) = ⟨#[45, 49]⟩ := by decide +kernel

/-! ### parsing -/
theorem parseUint10_dig : ∀ (l : List UInt8) (acc : Nat), (∀ c ∈ l, 48 ≤ c.toNat ∧ c.toNat ≤ 57) → digVal acc l < 18446744073709551616 → parseUint10 acc l = .ok (digVal acc l)
  | [], acc, _, _ => rfl
  | c :: r, acc, hd, hb => by
    have hc := hd c (by simp)
    have mono : ∀ (l : List UInt8) (a : Nat), a ≤ digVal a l := by
      intro l; induction l with
      | nil => intro a; exact Nat.le_refl _
      | cons x l ih => intro a; exact Nat.le_trans (by omega) (ih (a * 10 + (x.toNat - 48)))
    have hb : digVal (acc * 10 + (c.toNat - 48)) r < 18446744073709551616 := hb
    show _ = NumEnd.ok (digVal (acc * 10 + (c.toNat - 48)) r)
    have hm := mono r (acc * 10 + (c.toNat - 48))
    rw [parseUint10, if_pos hc, if_neg (by omega), if_neg (by omega)]
    exact parseUint10_dig r _ (fun x hx => hd x (by simp [hx])) hb

theorem parseMag_dec (u : Nat) (h : u < 18446744073709551616) : parseMag (decDigits u) = .ok u := by
  unfold parseMag
  rw [if_neg (dec_ne u), parseUint10_dig _ _ (dec_digits u) (by rw [digVal_dec]; exact h), digVal_dec]

theorem atoiAll_itoa (n : Int) (h0 : -9223372036854775808 ≤ n) (h1 : n ≤ 9223372036854775807) : atoiAll (tx n).data.toList = .ok n := by
  rw [tx_list]
  by_cases h : n < 0
  · rw [itoa_ng h]
    simp only [atoiAll]
    rw [if_pos (by right; rfl), parseMag_dec _ (by omega)]
    have e45 : (45 : UInt8).toNat = 45 := rfl
    simp only [e45, not_true_eq_false, false_and, if_false, true_and, if_true]
    rw [if_neg (by omega)]
    congr 1; omega
  · have e := itoa_nn (n := n) (by omega)
    rw [e]
    cases ed : decDigits n.toNat with
    | nil => exact absurd ed (dec_ne _)
    | cons c r =>
      have hc := dec_digits n.toNat c (by rw [ed]; simp)
      have hp := parseMag_dec n.toNat (by omega)
      rw [ed] at hp
      simp only [atoiAll]
      rw [if_neg (by omega), hp]
      have h45 : ¬ c.toNat = 45 := by omega
      simp only [h45, not_false_eq_true, true_and, false_and, if_false]
      rw [if_neg (by omega)]
      congr 1; omega

/-! ### comparing -/
theorem digVal_bound : ∀ (l : List UInt8) (a : Nat), (∀ c ∈ l, 48 ≤ c.toNat ∧ c.toNat ≤ 57) → a * 10 ^ l.length ≤ digVal a l ∧ digVal a l < (a + 1) * 10 ^ l.length
  | [], a, _ => ⟨by show a * 1 ≤ a; omega, by show a < (a + 1) * 1; omega⟩
  | c :: r, a, h => by
    have hc := h c (by simp)
    obtain ⟨h1, h2⟩ := digVal_bound r (a * 10 + (c.toNat - 48)) (fun x hx => h x (by simp [hx]))
    have e : (c :: r).length = r.length + 1 := rfl
    have q1 : a * 10 ^ (r.length + 1) = (a * 10) * 10 ^ r.length := by rw [Nat.pow_succ, Nat.mul_comm (10 ^ r.length) 10, ← Nat.mul_assoc]
    have q2 : (a + 1) * 10 ^ (r.length + 1) = (a * 10 + 10) * 10 ^ r.length := by rw [Nat.pow_succ, Nat.mul_comm (10 ^ r.length) 10, ← Nat.mul_assoc, Nat.add_mul a 1 10]
    rw [e, q1, q2]
    exact ⟨Nat.le_trans (Nat.mul_le_mul_right _ (by omega)) h1, Nat.lt_of_lt_of_le h2 (Nat.mul_le_mul_right _ (by omega))⟩

theorem less_dig : ∀ (l m : List UInt8) (a : Nat), (∀ c ∈ l, 48 ≤ c.toNat ∧ c.toNat ≤ 57) → (∀ c ∈ m, 48 ≤ c.toNat ∧ c.toNat ≤ 57) → l.length = m.length →
    Op.bytesLess l m = decide (digVal a l < digVal a m)
  | [], [], a, _, _, _ => by
    show false = decide (a < a); simp
  | [], _ :: _, _, _, _, h => by simp at h
  | _ :: _, [], _, _, _, h => by simp at h
  | c :: l, d :: m, a, hl, hm, h => by
    have hc := hl c (by simp)
    have hd := hm d (by simp)
    have hl' : ∀ x ∈ l, 48 ≤ x.toNat ∧ x.toNat ≤ 57 := fun x hx => hl x (by simp [hx])
    have hm' : ∀ x ∈ m, 48 ≤ x.toNat ∧ x.toNat ≤ 57 := fun x hx => hm x (by simp [hx])
    have hlen : l.length = m.length := by simpa using h
    obtain ⟨a1, a2⟩ := digVal_bound l (a * 10 + (c.toNat - 48)) hl'
    obtain ⟨b1, b2⟩ := digVal_bound m (a * 10 + (d.toNat - 48)) hm'
    show (decide (c < d) || (c == d && Op.bytesLess l m)) = decide (digVal (a * 10 + (c.toNat - 48)) l < digVal (a * 10 + (d.toNat - 48)) m)
    rw [hlen] at a1 a2
    rcases Nat.lt_trichotomy c.toNat d.toNat with hlt | heq | hgt
    · have e1 : c < d := UInt8.lt_iff_toNat_lt.2 hlt
      have : (a * 10 + (c.toNat - 48) + 1) * 10 ^ m.length ≤ (a * 10 + (d.toNat - 48)) * 10 ^ m.length := Nat.mul_le_mul_right _ (by omega)
      rw [decide_eq_true e1, Bool.true_or]
      exact (decide_eq_true (Nat.lt_of_lt_of_le a2 (Nat.le_trans this b1))).symm
    · obtain rfl : c = d := UInt8.toNat_inj.1 heq
      have e1 : ¬ c < c := fun h => Nat.lt_irrefl _ (UInt8.lt_iff_toNat_lt.1 h)
      rw [decide_eq_false e1, beq_self_eq_true, Bool.false_or, Bool.true_and]
      exact less_dig l m _ hl' hm' hlen
    · have e1 : ¬ c < d := fun h => by have := UInt8.lt_iff_toNat_lt.1 h; omega
      have e2 : (c == d) = false := by
        rw [beq_eq_false_iff_ne]; intro h; rw [h] at hgt; omega
      have : (a * 10 + (d.toNat - 48) + 1) * 10 ^ m.length ≤ (a * 10 + (c.toNat - 48)) * 10 ^ m.length := Nat.mul_le_mul_right _ (by omega)
      rw [decide_eq_false e1, e2, Bool.false_and, Bool.false_or]
      refine (decide_eq_false ?_).symm
      have := Nat.lt_of_lt_of_le b2 (Nat.le_trans this a1)
      omega

theorem less_dec (u v : Nat) (h : (decDigits u).length = (decDigits v).length) : Op.bytesLess (decDigits u) (decDigits v) = decide (u < v) := by
  rw [less_dig _ _ 0 (dec_digits u) (dec_digits v) h, digVal_dec, digVal_dec]

theorem pow_le_of_nDigits (u : Nat) (h : 2 ≤ nDigits u) : 10 ^ (nDigits u - 1) ≤ u := by
  induction u using Nat.strongRecOn with
  | _ u ih =>
    by_cases h9 : u < 10
    · rw [nDigits_small h9] at h; omega
    · rw [nDigits_big h9]
      by_cases h2 : 2 ≤ nDigits (u / 10)
      · have := ih (u / 10) (by omega) h2
        have e : nDigits (u / 10) + 1 - 1 = (nDigits (u / 10) - 1) + 1 := by omega
        rw [e, Nat.pow_succ]; omega
      · have := nDigits_pos (u / 10)
        have e : nDigits (u / 10) = 1 := by omega
        rw [e]; show 10 ^ 1 ≤ u; omega

theorem lt_of_nDigits_lt (u v : Nat) (h : nDigits u < nDigits v) : u < v := by
  have h1 := lt_pow_nDigits u
  have h2 := pow_le_of_nDigits v (by have := nDigits_pos u; omega)
  have h3 : 10 ^ nDigits u ≤ 10 ^ (nDigits v - 1) := Nat.pow_le_pow_right (by decide) (by omega)
  omega

theorem tx_toList (n : Int) : (tx n).toList = itoa n := by rw [ByteArray.toList_eq, tx_list]
theorem tx_beq (n m : Int) : ((tx n).toList == itoa m) = decide (n = m) := by
  rw [tx_toList]
  by_cases h : n = m
  · subst h; simp
  · rw [decide_eq_false h]
    rw [beq_eq_false_iff_ne]; exact fun e => h (itoa_inj e)
theorem itoa0 : itoa 0 = [48] := by decide +kernel
theorem itoa1 : itoa 1 = [49] := by decide +kernel
theorem tx_beq0 (n : Int) : ((tx n).toList == [48]) = decide (n = 0) := by rw [← itoa0]; exact tx_beq n 0
theorem tx_beqs (n m : Int) : ((tx n).toList == (tx m).toList) = decide (n = m) := by rw [tx_toList m]; exact tx_beq n m
theorem tx_less (u v : Nat) (h : (tx u).size = (tx v).size) : Op.bytesLess (tx u).toList (tx v).toList = decide (u < v) := by
  rw [tx_size, tx_size, itoa_nn (by omega), itoa_nn (by omega)] at h
  rw [tx_toList, tx_toList, itoa_nn (by omega), itoa_nn (by omega)]
  exact less_dec u v h
theorem tx_size_nat (u : Nat) : (tx (u : Int)).size = nDigits u := by
  rw [tx_size, itoa_nn (by omega), decDigits_length]; rfl
end Go.Proofs.YtphjfalibnnohaaGreatDoor
