/- Plain words on ratios of naturals: what vergeref2's Frac makes of two numbers and a power of 2. -/
import Derived.Test.YtiadjcilfljdaaaDoorPlainL
namespace Verge
set_option linter.unusedVariables false
set_option linter.unusedSimpArgs false

/-- The exponent that is left when the powers of 2 are taken out. -/
def fracE (n d : Nat) (e : Int) : Int := e + ntz n - ntz d
def fracN (n d : Nat) (e : Int) : Nat := if n = 0 then 0 else (n / 2 ^ ntz n) * 2 ^ (fracE n d e).toNat
def fracD (n d : Nat) (e : Int) : Nat := if n = 0 then 1 else (d / 2 ^ ntz d) * 2 ^ (-(fracE n d e)).toNat

theorem dig_div_length (n k : Nat) : (dig (n / 2 ^ k)).length + k / 32 ≤ (dig n).length ∨ n / 2 ^ k = 0 := by
  by_cases h0 : n / 2 ^ k = 0
  · exact .inr h0
  · left
    have hp := dig_le_pow h0
    have hl := dig_length_pos h0
    have h1 : 4294967296 ^ ((dig (n / 2 ^ k)).length - 1) * 2 ^ k ≤ n := Nat.le_trans (Nat.mul_le_mul_right _ hp) (Nat.div_mul_le_self _ _)
    have h2 : (4294967296 : Nat) ^ ((dig (n / 2 ^ k)).length - 1 + k / 32) ≤ n := by
      refine Nat.le_trans ?_ h1
      rw [Nat.pow_add]
      refine Nat.mul_le_mul_left _ ?_
      rw [show (4294967296 : Nat) = 2 ^ 32 from rfl, ← Nat.pow_mul]
      exact Nat.pow_le_pow_right (by omega) (by omega)
    have h3 : ¬ (dig n).length ≤ (dig (n / 2 ^ k)).length - 1 + k / 32 := fun h => by
      have := dig_length_le.1 h
      omega
    omega
theorem ntz_words_le (n : Nat) : ntz n / 32 ≤ (dig n).length := by
  by_cases h : n = 0
  · subst h; rw [ntz_zero]; omega
  · obtain ⟨m, hm⟩ := ntz_spec n h
    have h1 : n / 2 ^ ntz n ≠ 0 := by
      have h2 := Nat.two_pow_pos (ntz n)
      have : n / 2 ^ ntz n = 2 * m + 1 := Nat.div_eq_of_eq_mul_right h2 hm
      omega
    rcases dig_div_length n (ntz n) with h2 | h2
    · omega
    · exact absurd h2 h1

/-- The ratio of n and d, times 2 to the e, is that of what Frac makes of them. -/
theorem frac_val (n d : Nat) (e : Int) (hd : d ≠ 0) (k : Nat) (hk : 0 ≤ (k : Int) + e) : fracN n d e * d * 2 ^ k = n * fracD n d e * 2 ^ ((k : Int) + e).toNat := by
  unfold fracN fracD
  by_cases hn : n = 0
  · simp [hn]
  · rw [if_neg hn, if_neg hn]
    obtain ⟨m, hm⟩ := ntz_spec n hn
    obtain ⟨l, hl⟩ := ntz_spec d hd
    have e1 : n / 2 ^ ntz n = 2 * m + 1 := Nat.div_eq_of_eq_mul_right (Nat.two_pow_pos _) hm
    have e2 : d / 2 ^ ntz d = 2 * l + 1 := Nat.div_eq_of_eq_mul_right (Nat.two_pow_pos _) hl
    rw [e1, e2]
    unfold fracE
    obtain ⟨a, ha⟩ : ∃ a, ntz n = a := ⟨_, rfl⟩
    obtain ⟨b, hb⟩ : ∃ b, ntz d = b := ⟨_, rfl⟩
    rw [ha] at hm ⊢
    rw [hb] at hl ⊢
    rw [hm, hl]
    obtain ⟨u, hu⟩ : ∃ u, (e + a - b).toNat = u := ⟨_, rfl⟩
    obtain ⟨v, hv⟩ : ∃ v, (-(e + a - b)).toNat = v := ⟨_, rfl⟩
    obtain ⟨t, ht⟩ : ∃ t, ((k : Int) + e).toNat = t := ⟨_, rfl⟩
    rw [hu, hv, ht]
    have hs : u + b + k = a + v + t := by omega
    have h1 : (2 * m + 1) * 2 ^ u * (2 ^ b * (2 * l + 1)) * 2 ^ k = (2 * m + 1) * (2 * l + 1) * 2 ^ (u + b + k) := by rw [Nat.pow_add, Nat.pow_add]; grind
    have h2 : 2 ^ a * (2 * m + 1) * ((2 * l + 1) * 2 ^ v) * 2 ^ t = (2 * m + 1) * (2 * l + 1) * 2 ^ (a + v + t) := by rw [Nat.pow_add, Nat.pow_add]; grind
    rw [h1, h2, hs]
theorem fracD_pos (n d : Nat) (e : Int) (hd : d ≠ 0) : 0 < fracD n d e := by
  unfold fracD
  split
  · omega
  · obtain ⟨l, hl⟩ := ntz_spec d hd
    have e2 : d / 2 ^ ntz d = 2 * l + 1 := Nat.div_eq_of_eq_mul_right (Nat.two_pow_pos _) hl
    rw [e2]
    exact Nat.mul_pos (by omega) (Nat.two_pow_pos _)
theorem fracN_zero (n d : Nat) (e : Int) : fracN n d e = 0 ↔ n = 0 := by
  unfold fracN
  split
  · rename_i h; simp [h]
  · rename_i h
    obtain ⟨m, hm⟩ := ntz_spec n h
    have e1 : n / 2 ^ ntz n = 2 * m + 1 := Nat.div_eq_of_eq_mul_right (Nat.two_pow_pos _) hm
    rw [e1]
    have := Nat.mul_pos (show 0 < 2 * m + 1 by omega) (Nat.two_pow_pos (fracE n d e).toNat)
    omega
theorem fracN_wl {n d : Nat} {e : Int} (he : 0 < fracE n d e) : (fracE n d e).toNat / 32 + (dig (n / 2 ^ ntz n)).length + 1 ≤ e.toNat / 32 + (dig n).length + 3 := by
  have h1 : (fracE n d e).toNat ≤ e.toNat + ntz n := by unfold fracE at he ⊢; omega
  rcases dig_div_length n (ntz n) with h | h
  · omega
  · rw [h, dig_zero]
    have := ntz_words_le n
    simp only [List.length_nil]
    omega
theorem fracD_wl {n d : Nat} {e : Int} (he : fracE n d e < 0) : (-(fracE n d e)).toNat / 32 + (dig (d / 2 ^ ntz d)).length + 1 ≤ (-e).toNat / 32 + (dig d).length + 3 := by
  have h1 : (-(fracE n d e)).toNat ≤ (-e).toNat + ntz d := by unfold fracE at he ⊢; omega
  rcases dig_div_length d (ntz d) with h | h
  · omega
  · rw [h, dig_zero]
    have := ntz_words_le d
    simp only [List.length_nil]
    omega
end Verge
