/- Plain law of Pow. -/
import Derived.Test.YtniogjkkhkibhaaDoorPlainH
namespace Verge
set_option linter.unusedVariables false
set_option linter.unusedSimpArgs false

def npow (a : Nat) (e : Int) : List Nat × Int := if e < 0 then ([], 1) else if long a then ([], 2) else fit (a ^ e.toNat)

theorem npow_neg {a : Nat} {e : Int} (h : e < 0) : npow a e = ([], 1) := by simp [npow, h]
theorem npow_long {a : Nat} {e : Int} (h : ¬ e < 0) (hl : long a = true) : npow a e = ([], 2) := by simp [npow, h, hl]
theorem npow_fit {a : Nat} {n : Nat} (hl : long a = false) : npow a (n : Int) = fit (a ^ n) := by simp [npow, hl]; omega

theorem fit_small {n : Nat} (h : (dig n).length ≤ 16384) : fit n = (dig n, 0) := fit_no ((long_false n).2 h)

/-- A power is too long if its exponent is beyond the limit. -/
theorem pow_long (a n k : Nat) (hk : blen a = k + 2) (hn : 524288 / (k + 1) < n) : long (a ^ n) = true := by
  rw [long_iff]
  rcases Nat.lt_or_ge 16384 (dig (a ^ n)).length with h | h
  · exact h
  · have h1 := blen_le_words h
    have ha : a ≠ 0 := by rintro rfl; simp [blen] at hk
    have h2 := blen_le ha
    rw [hk] at h2
    have h3 : 2 ^ ((k + 1) * n) ≤ a ^ n := by
      rw [Nat.pow_mul]
      exact Nat.pow_le_pow_left h2 n
    have h4 : 524288 < (k + 1) * n := by
      have := Nat.lt_mul_of_div_lt hn (by omega)
      rw [Nat.mul_comm] at this
      omega
    have h5 : ¬ blen (a ^ n) ≤ (k + 1) * n := fun h => by
      rw [blen_lt] at h
      exact absurd (Nat.lt_of_lt_of_le h h3) (Nat.lt_irrefl _)
    omega

/-- A power within the limit has at most 32769 words. -/
theorem pow_words (a n k : Nat) (hk : blen a = k + 2) (hn : n ≤ 524288 / (k + 1)) : (dig (a ^ n)).length ≤ 32769 := by
  have h1 : a < 2 ^ (k + 2) := by rw [← blen_lt]; omega
  have h2 : a ^ n ≤ 2 ^ ((k + 2) * n) := by
    rw [Nat.pow_mul]
    exact Nat.pow_le_pow_left (Nat.le_of_lt h1) n
  have h3 : (k + 1) * n ≤ 524288 := by
    have := Nat.mul_le_of_le_div _ _ _ hn
    rwa [Nat.mul_comm] at this
  obtain ⟨K, hK⟩ : ∃ K, K = 32768 := ⟨_, rfl⟩
  have h4 : (k + 2) * n ≤ 32 * K := by
    have e : (k + 2) * n = (k + 1) * n + n := by rw [show k + 2 = (k + 1) + 1 by omega, Nat.add_mul, Nat.one_mul]
    have : n ≤ (k + 1) * n := Nat.le_mul_of_pos_left _ (by omega)
    omega
  have := words_of_le _ _ (Nat.le_trans h2 (Nat.pow_le_pow_right (by omega) h4))
  omega

/-- What Pow's loop keeps: p x^m is the power, nothing is 0. -/
def PowInv (T p x m : Nat) : Prop := p * x ^ m = T ∧ 0 < p ∧ 0 < x ∧ 0 < m

theorem powInv_start {a n : Nat} (ha : 0 < a) (hn : 0 < n) : PowInv (a ^ n) 1 a n := ⟨by rw [Nat.one_mul], by omega, ha, hn⟩

theorem powInv_x {T p x m : Nat} (h : PowInv T p x m) : p * x ≤ T := by
  obtain ⟨h1, h2, h3, h4⟩ := h
  rw [← h1]
  refine Nat.mul_le_mul_left _ ?_
  calc x = x ^ 1 := (Nat.pow_one x).symm
    _ ≤ x ^ m := Nat.pow_le_pow_right h3 h4

theorem powInv_le {T p x m : Nat} (h : PowInv T p x m) : p ≤ T ∧ x ≤ T := by
  have h1 := powInv_x h
  obtain ⟨_, h2, h3, _⟩ := h
  constructor
  · exact Nat.le_trans (Nat.le_mul_of_pos_right _ h3) h1
  · exact Nat.le_trans (Nat.le_mul_of_pos_left _ h2) h1

theorem powInv_odd {T p x m : Nat} (h : PowInv T p x m) (ho : m % 2 = 1) (hm : 0 < m / 2) : PowInv T (p * x) (x * x) (m / 2) := by
  obtain ⟨h1, h2, h3, h4⟩ := h
  refine ⟨?_, Nat.mul_pos h2 h3, Nat.mul_pos h3 h3, hm⟩
  have e : m = 2 * (m / 2) + 1 := by omega
  rw [← h1]
  conv => rhs; rw [e, Nat.pow_succ, Nat.pow_mul, Nat.pow_two]
  rw [Nat.mul_assoc, Nat.mul_comm x]

theorem powInv_even {T p x m : Nat} (h : PowInv T p x m) (ho : m % 2 = 0) (hm : 0 < m / 2) : PowInv T p (x * x) (m / 2) := by
  obtain ⟨h1, h2, h3, h4⟩ := h
  refine ⟨?_, h2, Nat.mul_pos h3 h3, hm⟩
  have e : m = 2 * (m / 2) := by omega
  rw [← h1]
  conv => rhs; rw [e, Nat.pow_mul, Nat.pow_two]

theorem powInv_end {T p x m : Nat} (h : PowInv T p x m) (hm : m = 1) : p * x = T := by
  rw [← h.1, hm, Nat.pow_one]
end Verge
