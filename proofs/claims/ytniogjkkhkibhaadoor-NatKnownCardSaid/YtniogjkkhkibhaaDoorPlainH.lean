/- Plain: sums, products, differences of short numbers are not refused. -/
import Derived.Test.YtniogjkkhkibhaaDoorPlainG
namespace Verge
set_option linter.unusedVariables false
set_option linter.unusedSimpArgs false

theorem dig_mul_length (a b : Nat) : (dig (a * b)).length ≤ (dig a).length + (dig b).length := by
  rw [dig_length_le, Nat.pow_add]
  have h1 := (dig_length_le (n := a) (k := (dig a).length)).1 (Nat.le_refl _)
  have h2 := (dig_length_le (n := b) (k := (dig b).length)).1 (Nat.le_refl _)
  rcases Nat.eq_zero_or_pos b with rfl | hb
  · rw [Nat.mul_zero]; exact Nat.mul_pos (Nat.pow_pos (by omega)) (Nat.pow_pos (by omega))
  · exact Nat.lt_of_lt_of_le (Nat.mul_lt_mul_of_pos_right h1 hb) (Nat.mul_le_mul_left _ (Nat.le_of_lt h2))

theorem dig_add_length (a b k : Nat) (ha : (dig a).length ≤ k) (hb : (dig b).length ≤ k) : (dig (a + b)).length ≤ k + 1 := by
  rw [dig_length_le] at *
  rw [Nat.pow_succ]
  generalize 4294967296 ^ k = P at *
  omega

theorem nmul_small (a b : Nat) (h : (dig a).length + (dig b).length ≤ 16384) : nmul a b = (dig (a * b), 0) := by
  have h1 := blen_words_le (n := a) (Nat.le_refl (dig a).length)
  have h2 := blen_words_le (n := b) (Nat.le_refl (dig b).length)
  have h3 := dig_mul_length a b
  rw [nmul, (long_false a).2 (by omega), (long_false b).2 (by omega), decide_eq_false (by omega)]
  simp only [Bool.or_false, if_false, Bool.false_eq_true]
  rw [fit_no ((long_false _).2 (by omega))]

theorem nadd_small (a b : Nat) (ha : (dig a).length ≤ 16383) (hb : (dig b).length ≤ 16383) : nadd a b = (dig (a + b), 0) := by
  have h3 := dig_add_length a b 16383 ha hb
  rw [nadd_fit (by rw [(long_false a).2 (by omega), (long_false b).2 (by omega)]; rfl), fit_no ((long_false _).2 (by omega))]

theorem nsub_small (a b : Nat) (h : b ≤ a) (ha : (dig a).length ≤ 16384) : nsub a b = (dig (a - b), 0) := by
  have h1 := dig_length_mono h
  have h3 := dig_length_mono (Nat.sub_le a b)
  rw [nsub_fit (by omega) (by rw [(long_false a).2 (by omega), (long_false b).2 (by omega)]; rfl), fit_no ((long_false _).2 (by omega))]
end Verge
