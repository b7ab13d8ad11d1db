/-
  The coder's tests and masks on the machine's words, as arithmetic. Conditions: none.
-/
import Derived.Test.YtcieeoobobafmaaBitModel
namespace Go.Proofs.Ytcieeoobobafmaa
open Go.RowKit

theorem ofInt_nat (a : Nat) (h : a < 18446744073709551616) : (BitVec.ofInt 64 (a : Int)).toNat = a := by
  rw [BitVec.ofInt_natCast, BitVec.toNat_ofNat]; exact Nat.mod_eq_of_lt (by omega)
theorem i64_and_nat (a b : Nat) (ha : a < 9223372036854775808) (hb : b < 9223372036854775808) : bits .and .i64 (a : Int) (b : Int) = ((a &&& b : Nat) : Int) := by
  have hx : a &&& b ≤ a := Nat.and_le_left
  show IntKind.i64.wrap ((BitVec.ofInt 64 (a : Int) &&& BitVec.ofInt 64 (b : Int)).toNat : Int) = _
  rw [BitVec.toNat_and, ofInt_nat a (by omega), ofInt_nat b (by omega), IntWalk.i64_in _ (by omega)]
theorem nat_and_pow (c k : Nat) (h : c < 2 ^ (k + 1)) : c &&& 2 ^ k = if 2 ^ k ≤ c then 2 ^ k else 0 := by
  rw [Nat.pow_succ] at h
  by_cases hc : 2 ^ k ≤ c
  · rw [if_pos hc]
    obtain ⟨r, rfl⟩ : ∃ r, c = 2 ^ k + r := ⟨c - 2 ^ k, by omega⟩
    have e : 2 ^ k + r = 2 ^ k ||| r := by
      have := Nat.two_pow_add_eq_or_of_lt (show r < 2 ^ k by omega) 1
      rw [Nat.mul_one] at this
      exact this
    rw [e]
    apply Nat.eq_of_testBit_eq
    intro j
    rw [Nat.testBit_and, Nat.testBit_or, Nat.testBit_two_pow]
    by_cases hj : k = j <;> simp [hj]
  · rw [if_neg hc]
    apply Nat.eq_of_testBit_eq
    intro j
    rw [Nat.testBit_and, Nat.testBit_two_pow, Nat.zero_testBit]
    by_cases hj : k = j
    · subst hj
      have : c.testBit k = false := Nat.testBit_lt_two_pow (by omega)
      simp [this]
    · simp [hj]
theorem and_carry (c : Int) (h0 : 0 ≤ c) (h1 : c < 268435456) : bits .and .i64 c 134217728 = if 134217728 ≤ c then 134217728 else 0 := by
  obtain ⟨C, rfl⟩ := Int.eq_ofNat_of_zero_le h0
  have := nat_and_pow C 27 (by omega)
  rw [show (134217728 : Int) = ((2 ^ 27 : Nat) : Int) from rfl, i64_and_nat C (2 ^ 27) (by omega) (by omega), this]
  by_cases hc : 2 ^ 27 ≤ C
  · rw [if_pos hc, if_pos (by omega)]
  · rw [if_neg hc, if_neg (by omega)]; rfl
theorem and_half (a : Int) (h0 : 0 ≤ a) (h1 : a < 65536) : bits .and .i64 a 32768 = if 32768 ≤ a then 32768 else 0 := by
  obtain ⟨C, rfl⟩ := Int.eq_ofNat_of_zero_le h0
  have := nat_and_pow C 15 (by omega)
  rw [show (32768 : Int) = ((2 ^ 15 : Nat) : Int) from rfl, i64_and_nat C (2 ^ 15) (by omega) (by omega), this]
  by_cases hc : 2 ^ 15 ≤ C
  · rw [if_pos hc, if_pos (by omega)]
  · rw [if_neg hc, if_neg (by omega)]; rfl
theorem nat_andNot (r : Nat) (h : r < 2 ^ 27) : (2 ^ 27 + r) &&& (2 ^ 64 - (2 ^ 27 + 1)) = r := by
  have e : 2 ^ 27 + r = 2 ^ 27 ||| r := by
    have := Nat.two_pow_add_eq_or_of_lt h 1
    rw [Nat.mul_one] at this
    exact this
  rw [e]
  apply Nat.eq_of_testBit_eq
  intro j
  rw [Nat.testBit_and, Nat.testBit_or, Nat.testBit_two_pow_sub_succ (by decide), Nat.testBit_two_pow]
  by_cases hj : 27 = j
  · subst hj
    have : r.testBit 27 = false := Nat.testBit_lt_two_pow h
    simp [this]
  · by_cases h64 : j < 64
    · simp [hj, h64]
    · have : r.testBit j = false := Nat.testBit_lt_two_pow (Nat.lt_of_lt_of_le h (Nat.pow_le_pow_right (by omega) (by omega)))
      simp [this, hj]
theorem andNot_carry (c : Int) (h0 : 134217728 ≤ c) (h1 : c < 268435456) : bits .andNot .i64 c 134217728 = c - 134217728 := by
  obtain ⟨C, rfl⟩ := Int.eq_ofNat_of_zero_le (show 0 ≤ c by omega)
  obtain ⟨r, rfl⟩ : ∃ r, C = 2 ^ 27 + r := ⟨C - 2 ^ 27, by omega⟩
  have hr : r < 2 ^ 27 := by omega
  have e : ((BitVec.ofInt 64 ((2 ^ 27 + r : Nat) : Int)) &&& ~~~ (BitVec.ofInt 64 134217728)).toNat = r := by
    rw [BitVec.toNat_and, BitVec.toNat_not, ofInt_nat _ (by omega), show (134217728 : Int) = ((2 ^ 27 : Nat) : Int) from rfl, ofInt_nat _ (by omega)]
    have := nat_andNot r hr
    rw [show 2 ^ 64 - 1 - 2 ^ 27 = 2 ^ 64 - (2 ^ 27 + 1) from by decide]
    exact this
  show IntKind.i64.wrap (((BitVec.ofInt 64 ((2 ^ 27 + r : Nat) : Int)) &&& ~~~ (BitVec.ofInt 64 134217728)).toNat : Int) = _
  rw [e, IntWalk.i64_in _ (by omega)]
  omega
theorem and_low (x : Int) (k : Nat) (hk : k ≤ 62) : bits .and .i64 x (2 ^ k - 1) = x % 2 ^ k := by
  have hp : (2 : Nat) ^ k ≤ 2 ^ 62 := Nat.pow_le_pow_right (by omega) hk
  have hp1 : 1 ≤ (2 : Nat) ^ k := Nat.one_le_two_pow
  have e : (2 : Int) ^ k - 1 = ((2 ^ k - 1 : Nat) : Int) := by
    have : ((2 ^ k : Nat) : Int) = (2 : Int) ^ k := by simp
    omega
  have e2 : (2 : Int) ^ k = ((2 ^ k : Nat) : Int) := by simp
  have h1 : ((BitVec.ofInt 64 x &&& BitVec.ofInt 64 ((2 ^ k - 1 : Nat) : Int)).toNat : Int) = x % 2 ^ k := by
    rw [BitVec.toNat_and, BitVec.ofInt_natCast, BitVec.toNat_ofNat, Nat.mod_eq_of_lt (show 2 ^ k - 1 < 2 ^ 64 by omega), Nat.and_two_pow_sub_one_eq_mod, BitVec.toNat_ofInt, e2]
    have hd : ((2 ^ k : Nat) : Int) ∣ ((2 ^ 64 : Nat) : Int) := Int.natCast_dvd_natCast.2 (Nat.pow_dvd_pow 2 (by omega))
    have h0 : 0 ≤ x % ((2 ^ 64 : Nat) : Int) := Int.emod_nonneg _ (by decide)
    rw [Int.natCast_emod, Int.toNat_of_nonneg h0, Int.emod_emod_of_dvd _ hd]
  show IntKind.i64.wrap ((BitVec.ofInt 64 x &&& BitVec.ofInt 64 ((2 : Int) ^ k - 1)).toNat : Int) = _
  rw [e, h1]
  have h2 : 0 ≤ x % 2 ^ k := Int.emod_nonneg _ (by omega)
  have h3 : x % 2 ^ k < 2 ^ k := Int.emod_lt_of_pos _ (by omega)
  rw [IntWalk.i64_in _ (by omega)]
theorem low19 (x : Int) : bits .and .i64 x 524287 = x % 524288 := and_low x 19 (by omega)
theorem low20 (x : Int) : bits .and .i64 x 1048575 = x % 1048576 := and_low x 20 (by omega)
theorem or_ffff (c : Int) (h0 : 0 ≤ c) (h1 : c < 9223372036854710272) : bits .or .i64 c 65535 = c / 65536 * 65536 + 65535 := by
  obtain ⟨C, rfl⟩ := Int.eq_ofNat_of_zero_le h0
  have e : C ||| 65535 = C / 65536 * 65536 + 65535 := by
    have h1 : C = 2 ^ 16 * (C / 2 ^ 16) + C % 2 ^ 16 := (Nat.div_add_mod C (2 ^ 16)).symm
    have h2 : 2 ^ 16 * (C / 2 ^ 16) + C % 2 ^ 16 = 2 ^ 16 * (C / 2 ^ 16) ||| C % 2 ^ 16 := Nat.two_pow_add_eq_or_of_lt (Nat.mod_lt _ (by decide)) _
    have h3 : 2 ^ 16 * (C / 2 ^ 16) + 65535 = 2 ^ 16 * (C / 2 ^ 16) ||| 65535 := Nat.two_pow_add_eq_or_of_lt (by decide) _
    have h4 : C % 2 ^ 16 ||| 65535 = 65535 := by
      apply Nat.eq_of_testBit_eq
      intro j
      have e5 : (65535 : Nat) = 2 ^ 16 - 1 := rfl
      rw [Nat.testBit_or, e5, Nat.testBit_two_pow_sub_one]
      by_cases hj : j < 16
      · simp [hj]
      · have : (C % 2 ^ 16).testBit j = false := Nat.testBit_lt_two_pow (Nat.lt_of_lt_of_le (Nat.mod_lt _ (by decide)) (Nat.pow_le_pow_right (by omega) (by omega)))
        simp [hj, this]
    calc C ||| 65535 = (2 ^ 16 * (C / 2 ^ 16) ||| C % 2 ^ 16) ||| 65535 := by rw [← h2, ← h1]
      _ = 2 ^ 16 * (C / 2 ^ 16) ||| (C % 2 ^ 16 ||| 65535) := Nat.or_assoc _ _ _
      _ = 2 ^ 16 * (C / 2 ^ 16) + 65535 := by rw [h4, h3]
      _ = C / 65536 * 65536 + 65535 := by rw [Nat.mul_comm]
  rw [show (65535 : Int) = ((65535 : Nat) : Int) from rfl, i64_or_nat C 65535 (by omega) (by omega), e]
  omega
end Go.Proofs.Ytcieeoobobafmaa
