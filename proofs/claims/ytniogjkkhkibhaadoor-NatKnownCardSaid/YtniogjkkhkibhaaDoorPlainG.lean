/- Plain law of Root and Pow. -/
import Derived.Test.YtniogjkkhkibhaaDoorPlainF
namespace Verge
set_option linter.unusedVariables false
set_option linter.unusedSimpArgs false

/-- s is the root of a, rounded down. -/
def IsRoot (a s : Nat) : Prop := s * s ≤ a ∧ a < (s + 1) * (s + 1)

theorem isRoot_unique {a s t : Nat} (h : IsRoot a s) (k : IsRoot a t) : s = t := by
  rcases Nat.lt_trichotomy s t with hl | he | hg
  · exact absurd (Nat.lt_of_lt_of_le h.2 (Nat.mul_le_mul (show s + 1 ≤ t from hl) hl)) (by have := k.1; omega)
  · exact he
  · exact absurd (Nat.lt_of_lt_of_le k.2 (Nat.mul_le_mul (show t + 1 ≤ s from hg) hg)) (by have := h.1; omega)

/-- What Newton's loop keeps. -/
def Newton (K a x : Nat) : Prop := 0 < x ∧ a < (x + 1) * (x + 1) ∧ x ≤ 2 ^ (32 * K)

theorem newton_quo {K a x : Nat} (h : Newton K a x) : a / x ≤ x + 2 := by
  have h0 := h.1
  have h1 := h.2.1
  have : a < x * (x + 3) := by
    have e : (x + 1) * (x + 1) = x * x + 2 * x + 1 := by rw [Nat.add_mul, Nat.mul_add]; omega
    have e2 : x * (x + 3) = x * x + 3 * x := by rw [Nat.mul_add]; omega
    omega
  have := (Nat.div_lt_iff_lt_mul h0).2 (show a < (x + 3) * x by rw [Nat.mul_comm]; exact this)
  omega

theorem newton_stop {K a x : Nat} (h : Newton K a x) (hs : x ≤ (a / x + x) / 2) : IsRoot a x := by
  refine ⟨?_, h.2.1⟩
  have : x ≤ a / x := by omega
  exact (Nat.le_div_iff_mul_le h.1).1 this

theorem newton_next {K a x : Nat} (ha : 0 < a) (h : Newton K a x) (hs : (a / x + x) / 2 < x) : Newton K a ((a / x + x) / 2) := by
  obtain ⟨h0, h1, h2⟩ := h
  obtain ⟨q, hq⟩ : ∃ q, a / x = q := ⟨_, rfl⟩
  have hlt : a < (q + 1) * x := by rw [← hq]; exact (Nat.div_lt_iff_lt_mul h0).1 (Nat.lt_succ_self _)
  rw [hq] at hs ⊢
  obtain ⟨y, hy⟩ : ∃ y, (q + x) / 2 = y := ⟨_, rfl⟩
  rw [hy] at hs ⊢
  refine ⟨?_, ?_, by omega⟩
  · have : q < x := by omega
    rcases Nat.lt_or_ge x 2 with h | h
    · have : x = 1 := by omega
      subst this
      have : a / 1 = a := Nat.div_one a
      omega
    · omega
  · have h3 : q + x ≤ 2 * y + 1 := by omega
    -- 4 (q+1) x ≤ (q + 1 + x)^2 ≤ (2 (y+1))^2
    have h4 : 4 * ((q + 1) * x) ≤ (q + 1 + x) * (q + 1 + x) := by
      have e : (q + 1 + x) * (q + 1 + x) = (q + 1) * (q + 1) + x * x + 2 * ((q + 1) * x) := by
        generalize q + 1 = p; rw [Nat.add_mul, Nat.mul_add, Nat.mul_add, Nat.mul_comm x p]; omega
      rw [e]
      have : 2 * ((q + 1) * x) ≤ (q + 1) * (q + 1) + x * x := by
        rcases Nat.le_total (q + 1) x with hl | hl
        · obtain ⟨d, rfl⟩ := Nat.exists_eq_add_of_le hl
          generalize q + 1 = p
          have e1 : (p + d) * (p + d) = p * p + 2 * (p * d) + d * d := by rw [Nat.add_mul, Nat.mul_add, Nat.mul_add, Nat.mul_comm d p]; omega
          have e2 : p * (p + d) = p * p + p * d := Nat.mul_add _ _ _
          omega
        · obtain ⟨d, hd⟩ := Nat.exists_eq_add_of_le hl
          rw [hd]
          have e1 : (x + d) * (x + d) = x * x + 2 * (x * d) + d * d := by rw [Nat.add_mul, Nat.mul_add, Nat.mul_add, Nat.mul_comm d x]; omega
          have e2 : (x + d) * x = x * x + x * d := by rw [Nat.add_mul, Nat.mul_comm d x]
          omega
      omega
    have h5 : (q + 1 + x) * (q + 1 + x) ≤ (2 * (y + 1)) * (2 * (y + 1)) := Nat.mul_le_mul (by omega) (by omega)
    have e : (2 * (y + 1)) * (2 * (y + 1)) = 4 * ((y + 1) * (y + 1)) := by
      rw [Nat.mul_assoc, Nat.mul_left_comm (y + 1), ← Nat.mul_assoc, ← Nat.mul_assoc]
    omega

theorem newton_start {K a : Nat} (hK : K = 8192) (hl : (dig a).length ≤ 16384) : Newton K a (2 ^ ((blen a + 1) / 2)) := by
  have hb := blen_le_words hl
  refine ⟨Nat.pow_pos (by omega), ?_, Nat.pow_le_pow_right (by omega) (by omega)⟩
  have h1 : a < 2 ^ blen a := (blen_lt a (blen a)).1 (Nat.le_refl _)
  have h2 : 2 ^ blen a ≤ 2 ^ ((blen a + 1) / 2) * 2 ^ ((blen a + 1) / 2) := by
    rw [← Nat.pow_add]; exact Nat.pow_le_pow_right (by omega) (by omega)
  have h3 : 2 ^ ((blen a + 1) / 2) * 2 ^ ((blen a + 1) / 2) ≤ (2 ^ ((blen a + 1) / 2) + 1) * (2 ^ ((blen a + 1) / 2) + 1) := Nat.mul_le_mul (by omega) (by omega)
  omega

theorem words_of_le (x k : Nat) (h : x ≤ 2 ^ (32 * k)) : (dig x).length ≤ k + 1 := by
  rw [dig_length_le, Nat.pow_succ, pow32]
  have : 0 < 2 ^ (32 * k) := Nat.pow_pos (by omega)
  omega

theorem newton_words {K a x : Nat} (h : Newton K a x) : (dig x).length ≤ K + 1 := words_of_le x K h.2.2

theorem newton_sum {K a x : Nat} (h : Newton K a x) : (dig (a / x + x)).length ≤ K + 2 := by
  have h1 := newton_quo h
  have h2 := h.2.2
  have e : 4294967296 ^ (K + 2) = 2 ^ (32 * K) * 18446744073709551616 := by
    rw [Nat.pow_add, pow32]
  rw [dig_length_le, e]
  have : 1 ≤ 2 ^ (32 * K) := Nat.pow_pos (by omega)
  generalize 2 ^ (32 * K) = B at *
  generalize a / x = q at *
  omega

/-- What Root answers: the root and whether it is exact. -/
def RootOf (a : Nat) (r : List Nat) (b : Bool) (er : Int) : Prop :=
  if long a then r = [] ∧ b = false ∧ er = 2 else ∃ s, IsRoot a s ∧ r = dig s ∧ b = decide (s * s = a) ∧ er = 0
end Verge
