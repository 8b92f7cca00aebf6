/- Plain: sums, products, differences of short numbers are not refused. -/
import Derived.Test.YtiadjcilfljdaaaDoorPlainD
import Derived.Lib.TrailingZeros
namespace Verge
set_option linter.unusedVariables false
set_option linter.unusedSimpArgs false

theorem dig_mul_length (a b : Nat) : (dig (a * b)).length ≤ (dig a).length + (dig b).length := by
  rw [dig_length_le, Nat.pow_add]
  have h1 := (dig_length_le (n := a) (k := (dig a).length)).1 (Nat.le_refl _)
  have h2 := (dig_length_le (n := b) (k := (dig b).length)).1 (Nat.le_refl _)
  rcases Nat.eq_zero_or_pos b with rfl | hb
  · rw [Nat.mul_zero]; exact Nat.mul_pos (Nat.pow_pos (by omega)) (Nat.pow_pos (by omega))
  · exact Nat.lt_of_lt_of_le (Nat.mul_lt_mul_of_pos_right h1 hb) (Nat.mul_le_mul_left _ (Nat.le_of_lt h2))

theorem dig_add_length (a b k : Nat) (ha : (dig a).length ≤ k) (hb : (dig b).length ≤ k) : (dig (a + b)).length ≤ k + 1 := by
  rw [dig_length_le] at *
  rw [Nat.pow_succ]
  generalize 4294967296 ^ k = P at *
  omega

theorem nmul_small (a b : Nat) (h : (dig a).length + (dig b).length ≤ 16384) : nmul a b = (dig (a * b), 0) := by
  have h1 := blen_words_le (n := a) (Nat.le_refl (dig a).length)
  have h2 := blen_words_le (n := b) (Nat.le_refl (dig b).length)
  have h3 := dig_mul_length a b
  rw [nmul, (long_false a).2 (by omega), (long_false b).2 (by omega), decide_eq_false (by omega)]
  simp only [Bool.or_false, if_false, Bool.false_eq_true]
  rw [fit_no ((long_false _).2 (by omega))]

theorem nadd_small (a b : Nat) (ha : (dig a).length ≤ 16383) (hb : (dig b).length ≤ 16383) : nadd a b = (dig (a + b), 0) := by
  have h3 := dig_add_length a b 16383 ha hb
  rw [nadd_fit (by rw [(long_false a).2 (by omega), (long_false b).2 (by omega)]; rfl), fit_no ((long_false _).2 (by omega))]

theorem nsub_small (a b : Nat) (h : b ≤ a) (ha : (dig a).length ≤ 16384) : nsub a b = (dig (a - b), 0) := by
  have h1 := dig_length_mono h
  have h3 := dig_length_mono (Nat.sub_le a b)
  rw [nsub_fit (by omega) (by rw [(long_false a).2 (by omega), (long_false b).2 (by omega)]; rfl), fit_no ((long_false _).2 (by omega))]
end Verge

/- Plain law of Pow. -/
namespace Verge
set_option linter.unusedVariables false
set_option linter.unusedSimpArgs false

def npow (a : Nat) (e : Int) : List Nat × Int := if e < 0 then ([], 1) else if long a then ([], 2) else fit (a ^ e.toNat)

theorem npow_neg {a : Nat} {e : Int} (h : e < 0) : npow a e = ([], 1) := by simp [npow, h]
theorem npow_long {a : Nat} {e : Int} (h : ¬ e < 0) (hl : long a = true) : npow a e = ([], 2) := by simp [npow, h, hl]
theorem npow_fit {a : Nat} {n : Nat} (hl : long a = false) : npow a (n : Int) = fit (a ^ n) := by simp [npow, hl]; omega

theorem fit_small {n : Nat} (h : (dig n).length ≤ 16384) : fit n = (dig n, 0) := fit_no ((long_false n).2 h)

/-- A power is too long if its exponent is beyond the limit. -/
theorem pow_long (a n k : Nat) (hk : blen a = k + 2) (hn : 524288 / (k + 1) < n) : long (a ^ n) = true := by
  rw [long_iff]
  rcases Nat.lt_or_ge 16384 (dig (a ^ n)).length with h | h
  · exact h
  · have h1 := blen_le_words h
    have ha : a ≠ 0 := by rintro rfl; simp [blen] at hk
    have h2 := blen_le ha
    rw [hk] at h2
    have h3 : 2 ^ ((k + 1) * n) ≤ a ^ n := by
      rw [Nat.pow_mul]
      exact Nat.pow_le_pow_left h2 n
    have h4 : 524288 < (k + 1) * n := by
      have := Nat.lt_mul_of_div_lt hn (by omega)
      rw [Nat.mul_comm] at this
      omega
    have h5 : ¬ blen (a ^ n) ≤ (k + 1) * n := fun h => by
      rw [blen_lt] at h
      exact absurd (Nat.lt_of_lt_of_le h h3) (Nat.lt_irrefl _)
    omega

/-- A power within the limit has at most 32769 words. -/
theorem pow_words (a n k : Nat) (hk : blen a = k + 2) (hn : n ≤ 524288 / (k + 1)) : (dig (a ^ n)).length ≤ 32769 := by
  have h1 : a < 2 ^ (k + 2) := by rw [← blen_lt]; omega
  have h2 : a ^ n ≤ 2 ^ ((k + 2) * n) := by
    rw [Nat.pow_mul]
    exact Nat.pow_le_pow_left (Nat.le_of_lt h1) n
  have h3 : (k + 1) * n ≤ 524288 := by
    have := Nat.mul_le_of_le_div _ _ _ hn
    rwa [Nat.mul_comm] at this
  obtain ⟨K, hK⟩ : ∃ K, K = 32768 := ⟨_, rfl⟩
  have h4 : (k + 2) * n ≤ 32 * K := by
    have e : (k + 2) * n = (k + 1) * n + n := by rw [show k + 2 = (k + 1) + 1 by omega, Nat.add_mul, Nat.one_mul]
    have : n ≤ (k + 1) * n := Nat.le_mul_of_pos_left _ (by omega)
    omega
  have := words_of_le _ _ (Nat.le_trans h2 (Nat.pow_le_pow_right (by omega) h4))
  omega

/-- What Pow's loop keeps: p x^m is the power, nothing is 0. -/
def PowInv (T p x m : Nat) : Prop := p * x ^ m = T ∧ 0 < p ∧ 0 < x ∧ 0 < m

theorem powInv_start {a n : Nat} (ha : 0 < a) (hn : 0 < n) : PowInv (a ^ n) 1 a n := ⟨by rw [Nat.one_mul], by omega, ha, hn⟩

theorem powInv_x {T p x m : Nat} (h : PowInv T p x m) : p * x ≤ T := by
  obtain ⟨h1, h2, h3, h4⟩ := h
  rw [← h1]
  refine Nat.mul_le_mul_left _ ?_
  calc x = x ^ 1 := (Nat.pow_one x).symm
    _ ≤ x ^ m := Nat.pow_le_pow_right h3 h4

theorem powInv_le {T p x m : Nat} (h : PowInv T p x m) : p ≤ T ∧ x ≤ T := by
  have h1 := powInv_x h
  obtain ⟨_, h2, h3, _⟩ := h
  constructor
  · exact Nat.le_trans (Nat.le_mul_of_pos_right _ h3) h1
  · exact Nat.le_trans (Nat.le_mul_of_pos_left _ h2) h1

theorem powInv_odd {T p x m : Nat} (h : PowInv T p x m) (ho : m % 2 = 1) (hm : 0 < m / 2) : PowInv T (p * x) (x * x) (m / 2) := by
  obtain ⟨h1, h2, h3, h4⟩ := h
  refine ⟨?_, Nat.mul_pos h2 h3, Nat.mul_pos h3 h3, hm⟩
  have e : m = 2 * (m / 2) + 1 := by omega
  rw [← h1]
  conv => rhs; rw [e, Nat.pow_succ, Nat.pow_mul, Nat.pow_two]
  rw [Nat.mul_assoc, Nat.mul_comm x]

theorem powInv_even {T p x m : Nat} (h : PowInv T p x m) (ho : m % 2 = 0) (hm : 0 < m / 2) : PowInv T p (x * x) (m / 2) := by
  obtain ⟨h1, h2, h3, h4⟩ := h
  refine ⟨?_, h2, Nat.mul_pos h3 h3, hm⟩
  have e : m = 2 * (m / 2) := by omega
  rw [← h1]
  conv => rhs; rw [e, Nat.pow_mul, Nat.pow_two]

theorem powInv_end {T p x m : Nat} (h : PowInv T p x m) (hm : m = 1) : p * x = T := by
  rw [← h.1, hm, Nat.pow_one]
end Verge

/- Plain law of Zeros: how often 2 goes into a number. -/
namespace Verge
set_option linter.unusedVariables false
set_option linter.unusedSimpArgs false

theorem odd_unique : ∀ (a b m l : Nat), 2 ^ a * (2 * m + 1) = 2 ^ b * (2 * l + 1) → a = b := by
  intro a
  induction a with
  | zero =>
    intro b m l h
    rcases b with _ | b
    · rfl
    · rw [Nat.pow_succ, Nat.pow_zero, Nat.one_mul, Nat.mul_comm (2 ^ b), Nat.mul_assoc] at h; omega
  | succ a ih =>
    intro b m l h
    rcases b with _ | b
    · rw [Nat.pow_succ, Nat.pow_zero, Nat.one_mul, Nat.mul_comm (2 ^ a), Nat.mul_assoc] at h; omega
    · rw [Nat.pow_succ, Nat.pow_succ, Nat.mul_comm (2 ^ a), Nat.mul_comm (2 ^ b), Nat.mul_assoc, Nat.mul_assoc] at h
      rw [ih b m l (by omega)]

/-- How many bits 0 a number has at its bottom; 0 of 0. -/
def ntz (n : Nat) : Nat := if n = 0 then 0 else Go.Lib.ctzFrom n n

theorem ntz_zero : ntz 0 = 0 := rfl
theorem ntz_of (n k m : Nat) (h : n = 2 ^ k * (2 * m + 1)) : ntz n = k := by
  have h0 : 0 < n := by rw [h]; exact Nat.mul_pos (Nat.pow_pos (by omega)) (by omega)
  obtain ⟨l, hl, _⟩ := Go.Lib.ctzFrom_spec n n h0 (Nat.lt_two_pow_self)
  rw [ntz, if_neg (by omega)]
  exact odd_unique _ _ l m (hl.symm.trans h)
theorem ntz_spec (n : Nat) (h : n ≠ 0) : ∃ m, n = 2 ^ ntz n * (2 * m + 1) := by
  obtain ⟨l, hl, _⟩ := Go.Lib.ctzFrom_spec n n (by omega) (Nat.lt_two_pow_self)
  refine ⟨l, ?_⟩
  rw [ntz, if_neg h]
  exact hl

theorem ctz_ntz (x : Nat) (h0 : x ≠ 0) (hx : x < 4294967296) : Go.Lib.ctz 32 x = ntz x ∧ ntz x < 32 := by
  obtain ⟨l, hl, hk⟩ := Go.Lib.ctzFrom_spec 32 x (by omega) hx
  have h1 := ntz_of x _ l hl
  rw [Go.Lib.ctz, if_neg h0, h1]
  exact ⟨rfl, hk⟩

/-- The lowest word that is not 0 tells. -/
theorem ntz_words {xs : List Nat} (k x : Nat) (hk : xs.getD k 0 = x) (hx0 : x ≠ 0) (hx : x < 4294967296) (hz : val (xs.take k) = 0) (hl : k < xs.length) : ntz (val xs) = 32 * k + ntz x := by
  obtain ⟨m, hm⟩ := ntz_spec x hx0
  have ht := (ctz_ntz x hx0 hx).2
  generalize hq : ntz x = t at *
  have e : val xs = 2 ^ (32 * k) * (x + 4294967296 * val (xs.drop (k + 1))) := by
    rw [val_split xs k (by omega), hz, val_drop xs k, hk, pow32, Nat.zero_add]
  have e2 : 4294967296 = 2 ^ t * (2 * 2 ^ (31 - t)) := by
    rw [← Nat.pow_succ', ← Nat.pow_add, show t + (31 - t).succ = 32 by omega]
  refine ntz_of _ _ (m + 2 ^ (31 - t) * val (xs.drop (k + 1))) ?_
  rw [e, Nat.pow_add, Nat.mul_assoc]
  congr 1
  generalize val (xs.drop (k + 1)) = r at *
  conv => lhs; rw [hm, e2]
  generalize 2 ^ (31 - t) = Q
  generalize 2 ^ t = P
  grind

theorem val_take_zero (xs : List Nat) (k : Nat) (hz : ∀ j, j < k → xs.getD j 0 = 0) : val (xs.take k) = 0 := by
  induction k with
  | zero => simp
  | succ k ih => rw [val_take_succ, ih (fun j hj => hz j (by omega)), hz k (by omega)]; simp
end Verge

/- Plain law of NatBits: a number is the sum of its bits. -/
namespace Verge
set_option linter.unusedVariables false
set_option linter.unusedSimpArgs false

theorem bit_word {X : List Nat} (hX : W32 X) (i j : Nat) (hj : j < 32) : val X / 2 ^ (32 * i + j) % 2 = X.getD i 0 / 2 ^ j % 2 := by
  rw [Nat.pow_add, ← Nat.div_div_eq_div_mul, ← pow32, val_div X hX, val_drop X i]
  obtain ⟨d, hd⟩ : ∃ d, 32 = j + (d + 1) := ⟨31 - j, by omega⟩
  have e : 4294967296 = 2 ^ j * (2 * 2 ^ d) := by
    rw [← Nat.pow_succ', ← Nat.pow_add, show j + d.succ = 32 by omega]
  rw [show 4294967296 * val (X.drop (i + 1)) = 2 ^ j * (2 * (2 ^ d * val (X.drop (i + 1)))) by rw [e]; grind, Nat.add_mul_div_left _ _ (Nat.pow_pos (by omega)), Nat.add_mul_mod_self_left]

theorem mod_bit (V k : Nat) : V % 2 ^ (k + 1) = V % 2 ^ k + 2 ^ k * (V / 2 ^ k % 2) := by rw [Nat.pow_succ, Nat.mod_mul]

theorem blen_top (T k : Nat) (h : T < 2 ^ k) : blen (T + 2 ^ k) = k + 1 := blen_of _ k (by omega) (by rw [Nat.pow_succ]; omega)
theorem blen_eq_zero (T : Nat) : blen T = 0 ↔ T = 0 := by
  constructor
  · intro h
    rcases Nat.eq_zero_or_pos T with e | e
    · exact e
    · have := blen_pos (n := T) (by omega); omega
  · rintro rfl; rfl
theorem ntz_pow (k : Nat) : ntz (2 ^ k) = k := ntz_of _ k 0 (by simp)
theorem ntz_top (T k : Nat) (h0 : T ≠ 0) (h : T < 2 ^ k) : ntz (T + 2 ^ k) = ntz T := by
  obtain ⟨m, hm⟩ := ntz_spec T h0
  generalize ntz T = t at *
  have htk : t < k := by
    rcases Nat.lt_or_ge t k with h1 | h1
    · exact h1
    · have h2 : 2 ^ k ≤ 2 ^ t := Nat.pow_le_pow_right (by omega) h1
      have h3 : 2 ^ t ≤ T := by rw [hm]; exact Nat.le_mul_of_pos_right _ (by omega)
      omega
  obtain ⟨d, rfl⟩ : ∃ d, k = t + (d + 1) := ⟨k - t - 1, by omega⟩
  refine ntz_of _ _ (m + 2 ^ d) ?_
  conv => lhs; rw [hm, Nat.pow_add, Nat.pow_succ]
  generalize 2 ^ t = P
  generalize 2 ^ d = Q
  grind
theorem mod_all {X : List Nat} (hX : W32 X) (n : Nat) (h : X.length ≤ n) : val X % 2 ^ (32 * n) = val X := by
  refine Nat.mod_eq_of_lt (Nat.lt_of_lt_of_le (val_lt hX) ?_)
  rw [← pow32]
  exact Nat.pow_le_pow_right (by omega) h
end Verge
