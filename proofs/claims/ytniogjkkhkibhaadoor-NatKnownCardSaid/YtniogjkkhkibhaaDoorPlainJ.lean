/- Plain law of Zeros: how often 2 goes into a number. -/
import Derived.Test.YtniogjkkhkibhaaDoorPlainI
import Derived.Lib.TrailingZeros
namespace Verge
set_option linter.unusedVariables false
set_option linter.unusedSimpArgs false

theorem odd_unique : ∀ (a b m l : Nat), 2 ^ a * (2 * m + 1) = 2 ^ b * (2 * l + 1) → a = b := by
  intro a
  induction a with
  | zero =>
    intro b m l h
    rcases b with _ | b
    · rfl
    · rw [Nat.pow_succ, Nat.pow_zero, Nat.one_mul, Nat.mul_comm (2 ^ b), Nat.mul_assoc] at h; omega
  | succ a ih =>
    intro b m l h
    rcases b with _ | b
    · rw [Nat.pow_succ, Nat.pow_zero, Nat.one_mul, Nat.mul_comm (2 ^ a), Nat.mul_assoc] at h; omega
    · rw [Nat.pow_succ, Nat.pow_succ, Nat.mul_comm (2 ^ a), Nat.mul_comm (2 ^ b), Nat.mul_assoc, Nat.mul_assoc] at h
      rw [ih b m l (by omega)]

/-- How many bits 0 a number has at its bottom; 0 of 0. -/
def ntz (n : Nat) : Nat := if n = 0 then 0 else Go.Lib.ctzFrom n n

theorem ntz_zero : ntz 0 = 0 := rfl
theorem ntz_of (n k m : Nat) (h : n = 2 ^ k * (2 * m + 1)) : ntz n = k := by
  have h0 : 0 < n := by rw [h]; exact Nat.mul_pos (Nat.pow_pos (by omega)) (by omega)
  obtain ⟨l, hl, _⟩ := Go.Lib.ctzFrom_spec n n h0 (Nat.lt_two_pow_self)
  rw [ntz, if_neg (by omega)]
  exact odd_unique _ _ l m (hl.symm.trans h)
theorem ntz_spec (n : Nat) (h : n ≠ 0) : ∃ m, n = 2 ^ ntz n * (2 * m + 1) := by
  obtain ⟨l, hl, _⟩ := Go.Lib.ctzFrom_spec n n (by omega) (Nat.lt_two_pow_self)
  refine ⟨l, ?_⟩
  rw [ntz, if_neg h]
  exact hl

theorem ctz_ntz (x : Nat) (h0 : x ≠ 0) (hx : x < 4294967296) : Go.Lib.ctz 32 x = ntz x ∧ ntz x < 32 := by
  obtain ⟨l, hl, hk⟩ := Go.Lib.ctzFrom_spec 32 x (by omega) hx
  have h1 := ntz_of x _ l hl
  rw [Go.Lib.ctz, if_neg h0, h1]
  exact ⟨rfl, hk⟩

/-- The lowest word that is not 0 tells. -/
theorem ntz_words {xs : List Nat} (k x : Nat) (hk : xs.getD k 0 = x) (hx0 : x ≠ 0) (hx : x < 4294967296) (hz : val (xs.take k) = 0) (hl : k < xs.length) : ntz (val xs) = 32 * k + ntz x := by
  obtain ⟨m, hm⟩ := ntz_spec x hx0
  have ht := (ctz_ntz x hx0 hx).2
  generalize hq : ntz x = t at *
  have e : val xs = 2 ^ (32 * k) * (x + 4294967296 * val (xs.drop (k + 1))) := by
    rw [val_split xs k (by omega), hz, val_drop xs k, hk, pow32, Nat.zero_add]
  have e2 : 4294967296 = 2 ^ t * (2 * 2 ^ (31 - t)) := by
    rw [← Nat.pow_succ', ← Nat.pow_add, show t + (31 - t).succ = 32 by omega]
  refine ntz_of _ _ (m + 2 ^ (31 - t) * val (xs.drop (k + 1))) ?_
  rw [e, Nat.pow_add, Nat.mul_assoc]
  congr 1
  generalize val (xs.drop (k + 1)) = r at *
  conv => lhs; rw [hm, e2]
  generalize 2 ^ (31 - t) = Q
  generalize 2 ^ t = P
  grind

theorem val_take_zero (xs : List Nat) (k : Nat) (hz : ∀ j, j < k → xs.getD j 0 = 0) : val (xs.take k) = 0 := by
  induction k with
  | zero => simp
  | succ k ih => rw [val_take_succ, ih (fun j hj => hz j (by omega)), hz k (by omega)]; simp
end Verge
