/- Plain law of NatBits: a number is the sum of its bits. -/
import Derived.Test.YtniogjkkhkibhaaDoorPlainJ
namespace Verge
set_option linter.unusedVariables false
set_option linter.unusedSimpArgs false

theorem bit_word {X : List Nat} (hX : W32 X) (i j : Nat) (hj : j < 32) : val X / 2 ^ (32 * i + j) % 2 = X.getD i 0 / 2 ^ j % 2 := by
  rw [Nat.pow_add, ← Nat.div_div_eq_div_mul, ← pow32, val_div X hX, val_drop X i]
  obtain ⟨d, hd⟩ : ∃ d, 32 = j + (d + 1) := ⟨31 - j, by omega⟩
  have e : 4294967296 = 2 ^ j * (2 * 2 ^ d) := by
    rw [← Nat.pow_succ', ← Nat.pow_add, show j + d.succ = 32 by omega]
  rw [show 4294967296 * val (X.drop (i + 1)) = 2 ^ j * (2 * (2 ^ d * val (X.drop (i + 1)))) by rw [e]; grind, Nat.add_mul_div_left _ _ (Nat.pow_pos (by omega)), Nat.add_mul_mod_self_left]

theorem mod_bit (V k : Nat) : V % 2 ^ (k + 1) = V % 2 ^ k + 2 ^ k * (V / 2 ^ k % 2) := by rw [Nat.pow_succ, Nat.mod_mul]

theorem blen_top (T k : Nat) (h : T < 2 ^ k) : blen (T + 2 ^ k) = k + 1 := blen_of _ k (by omega) (by rw [Nat.pow_succ]; omega)
theorem blen_eq_zero (T : Nat) : blen T = 0 ↔ T = 0 := by
  constructor
  · intro h
    rcases Nat.eq_zero_or_pos T with e | e
    · exact e
    · have := blen_pos (n := T) (by omega); omega
  · rintro rfl; rfl
theorem ntz_pow (k : Nat) : ntz (2 ^ k) = k := ntz_of _ k 0 (by simp)
theorem ntz_top (T k : Nat) (h0 : T ≠ 0) (h : T < 2 ^ k) : ntz (T + 2 ^ k) = ntz T := by
  obtain ⟨m, hm⟩ := ntz_spec T h0
  generalize ntz T = t at *
  have htk : t < k := by
    rcases Nat.lt_or_ge t k with h1 | h1
    · exact h1
    · have h2 : 2 ^ k ≤ 2 ^ t := Nat.pow_le_pow_right (by omega) h1
      have h3 : 2 ^ t ≤ T := by rw [hm]; exact Nat.le_mul_of_pos_right _ (by omega)
      omega
  obtain ⟨d, rfl⟩ : ∃ d, k = t + (d + 1) := ⟨k - t - 1, by omega⟩
  refine ntz_of _ _ (m + 2 ^ d) ?_
  conv => lhs; rw [hm, Nat.pow_add, Nat.pow_succ]
  generalize 2 ^ t = P
  generalize 2 ^ d = Q
  grind
theorem mod_all {X : List Nat} (hX : W32 X) (n : Nat) (h : X.length ≤ n) : val X % 2 ^ (32 * n) = val X := by
  refine Nat.mod_eq_of_lt (Nat.lt_of_lt_of_le (val_lt hX) ?_)
  rw [← pow32]
  exact Nat.pow_le_pow_right (by omega) h
end Verge
