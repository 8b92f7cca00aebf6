/- Plain words on binary64: the nearest to a dyadic ratio; halves; the middle of two. -/
import Derived.Test.YtmmbbkeefphaiaaUp
namespace Verge
set_option linter.unusedVariables false
set_option linter.unusedSimpArgs false

theorem cut_even (s : Bool) (m d : Nat) (h : d ≤ m.log2 + 2) : Ieee.Toward.even.cut s m d = if 2 ^ d < 2 * (m % 2 ^ d) ∨ 2 ^ d = 2 * (m % 2 ^ d) ∧ m / 2 ^ d % 2 = 1 then m / 2 ^ d + 1 else m / 2 ^ d := by
  unfold Ieee.Toward.cut
  rw [Nat.min_eq_left h, Nat.one_shiftLeft]
  dsimp only
  by_cases c1 : 2 ^ d < 2 * (m % 2 ^ d)
  · simp [c1]
  · by_cases c2 : 2 ^ d = 2 * (m % 2 ^ d)
    · by_cases c3 : m / 2 ^ d % 2 = 1
      · simp [c1, ← c2, c3]
      · simp [c1, ← c2, c3]
    · simp [c1, c2]

/-- The model's nearest word of a dyadic ratio of units. -/
theorem nearest_low (s : Bool) (m c : Nat) : Ieee.double.nearest s m (-1074 - (c : Nat)) = fword s (min (rngN m (2 ^ c)) 9218868437227405312) := by
  have hc0 := Nat.two_pow_pos c
  by_cases h0 : m = 0
  · subst h0
    unfold Ieee.Format.nearest
    rw [if_pos rfl]
    have : rngN 0 (2 ^ c) = 0 := by
      unfold rngN
      rw [Nat.zero_div]
      have : fl 0 = 0 := rfl
      rw [this, if_pos]
      rw [show FV 0 = 0 from rfl, show FV (0 + 1) = 1 from rfl]; omega
    rw [this]
    cases s <;> rfl
  unfold Ieee.Format.nearest
  rw [if_neg h0]
  show fword s (min (((max (-1074 - (c : Int) + (m.log2 : Nat) - (52 : Nat)) (-1074) - (-1074)).toNat * 4503599627370496 +
    Ieee.Toward.even.cut s (m <<< (-1074 - (c : Int) - max (-1074 - (c : Int) + (m.log2 : Nat) - (52 : Nat)) (-1074)).toNat) (max (-1074 - (c : Int) + (m.log2 : Nat) - (52 : Nat)) (-1074) - (-1074 - (c : Int))).toNat)) 9218868437227405312) = _
  congr 2
  have hl1 := Nat.log2_self_le h0
  have hl2 := Nat.lt_log2_self (n := m)
  unfold rngN
  by_cases hs : m.log2 ≤ 52 + c
  · rw [show max (-1074 - (c : Int) + (m.log2 : Nat) - (52 : Nat)) (-1074) = -1074 by omega]
    rw [show ((-1074 : Int) - (-1074)).toNat = 0 by omega, show (-1074 - (c : Int) - (-1074)).toNat = 0 by omega, show ((-1074 : Int) - (-1074 - (c : Int))).toNat = c by omega]
    rw [Nat.shiftLeft_zero, Nat.zero_mul, Nat.zero_add]
    have hq : m / 2 ^ c < 9007199254740992 := by
      rw [Nat.div_lt_iff_lt_mul hc0]
      refine Nat.lt_of_lt_of_le hl2 ?_
      rw [show (9007199254740992 : Nat) = 2 ^ 53 by rfl, ← Nat.pow_add]
      exact Nat.pow_le_pow_right (by omega) (by omega)
    have hfl : fl (m / 2 ^ c) = m / 2 ^ c := by
      have := fl_FV (m / 2 ^ c)
      rwa [FV_small hq] at this
    have hF1 : FV (m / 2 ^ c + 1) = m / 2 ^ c + 1 := by
      by_cases h : m / 2 ^ c + 1 < 9007199254740992
      · exact FV_small h
      · have e := FV_top 0
        rw [Nat.zero_mul, Nat.zero_add] at e
        rw [show m / 2 ^ c + 1 = 9007199254740992 by omega, e]
    rw [hfl, hF1, FV_small hq]
    have hd := Nat.div_add_mod m (2 ^ c)
    have hm := Nat.mod_lt m hc0
    have e1 : (m / 2 ^ c + (m / 2 ^ c + 1)) * 2 ^ c = 2 * (2 ^ c * (m / 2 ^ c)) + 2 ^ c := by grind
    rw [e1]
    by_cases hbig : c ≤ m.log2 + 2
    · rw [cut_even s m c hbig]
      by_cases c1 : 2 ^ c < 2 * (m % 2 ^ c)
      · rw [if_pos (.inl c1), if_neg (by omega), if_pos (by omega)]
      · by_cases c2 : 2 ^ c = 2 * (m % 2 ^ c)
        · by_cases c3 : m / 2 ^ c % 2 = 1
          · rw [if_pos (.inr ⟨c2, c3⟩), if_neg (by omega), if_neg (by omega), if_neg (by omega)]
          · rw [if_neg (by omega), if_neg (by omega), if_neg (by omega), if_pos (by omega)]
        · rw [if_neg (by omega), if_pos (by omega)]
    · have h1 : 2 ^ (m.log2 + 2) ≤ 2 ^ c := Nat.pow_le_pow_right (by omega) (by omega)
      have h2 : 2 ^ (m.log2 + 2) = 2 * 2 ^ (m.log2 + 1) := by rw [Nat.pow_succ]; omega
      have hz : m / 2 ^ c = 0 := Nat.div_eq_of_lt (by omega)
      have hzm : m % 2 ^ c = m := Nat.mod_eq_of_lt (by omega)
      have hcut : Ieee.Toward.even.cut s m c = 0 := by
        unfold Ieee.Toward.cut
        rw [Nat.min_eq_right (by omega), Nat.one_shiftLeft]
        have a1 : m / 2 ^ (m.log2 + 2) = 0 := Nat.div_eq_of_lt (by omega)
        have a2 : m % 2 ^ (m.log2 + 2) = m := Nat.mod_eq_of_lt (by omega)
        dsimp only
        rw [a1, a2]
        have a3 : ¬ 2 ^ (m.log2 + 2) < 2 * m := by omega
        have a4 : ¬ 2 ^ (m.log2 + 2) = 2 * m := by omega
        simp [a3, a4]
      rw [hcut, hz]
      rw [if_pos (by omega)]
  · obtain ⟨u, hu⟩ : ∃ u, m.log2 = 52 + c + u := ⟨m.log2 - 52 - c, by omega⟩
    rw [show max (-1074 - (c : Int) + (m.log2 : Nat) - (52 : Nat)) (-1074) = -1074 + (u : Int) by omega]
    rw [show (-1074 + (u : Int) - (-1074)).toNat = u by omega, show (-1074 - (c : Int) - (-1074 + (u : Int))).toNat = 0 by omega, show (-1074 + (u : Int) - (-1074 - (c : Int))).toNat = c + u by omega]
    rw [Nat.shiftLeft_zero, cut_even s m (c + u) (by omega)]
    have hq : m / 2 ^ c ≠ 0 := by
      have : 2 ^ c ≤ m := Nat.le_trans (Nat.pow_le_pow_right (by omega) (by omega)) hl1
      have := Nat.div_pos this hc0
      omega
    have hge : 4503599627370496 ≤ m / 2 ^ c := by
      rw [Nat.le_div_iff_mul_le hc0]
      refine Nat.le_trans ?_ hl1
      rw [show (4503599627370496 : Nat) = 2 ^ 52 by rfl, ← Nat.pow_add]
      exact Nat.pow_le_pow_right (by omega) (by omega)
    obtain ⟨k, t, hk, ht, t1, t2, hf⟩ := fl_parts hge
    have hlog : (m / 2 ^ c).log2 = 52 + u := by
      refine (Nat.log2_eq_iff hq).2 ⟨?_, ?_⟩
      · rw [Nat.le_div_iff_mul_le hc0, ← Nat.pow_add]
        exact Nat.le_trans (Nat.pow_le_pow_right (by omega) (by omega)) hl1
      · rw [Nat.div_lt_iff_lt_mul hc0, ← Nat.pow_add]
        exact Nat.lt_of_lt_of_le hl2 (Nat.pow_le_pow_right (by omega) (by omega))
    obtain rfl : k = u := by omega
    have ht' : m / 2 ^ (c + k) = t := by rw [ht, Nat.div_div_eq_div_mul, ← Nat.pow_add]
    rw [FV_succ, hf, FV_scale k t t1 t2, show (k * 4503599627370496 + t) / 4503599627370496 - 1 = k by omega, ht']
    have hd := Nat.div_add_mod m (2 ^ (c + k))
    have hm := Nat.mod_lt m (Nat.two_pow_pos (c + k))
    rw [ht'] at hd
    have e1 : (t * 2 ^ k + (t * 2 ^ k + 2 ^ k)) * 2 ^ c = 2 * (2 ^ (c + k) * t) + 2 ^ (c + k) := by rw [Nat.pow_add]; grind
    rw [e1]
    by_cases c1 : 2 ^ (c + k) < 2 * (m % 2 ^ (c + k))
    · rw [if_pos (.inl c1), if_neg (by omega), if_pos (by omega)]; omega
    · by_cases c2 : 2 ^ (c + k) = 2 * (m % 2 ^ (c + k))
      · by_cases c3 : t % 2 = 1
        · rw [if_pos (.inr ⟨c2, c3⟩), if_neg (by omega), if_neg (by omega), if_neg (by omega)]; omega
        · rw [if_neg (by omega), if_neg (by omega), if_neg (by omega), if_pos (by omega)]
      · rw [if_neg (by omega), if_pos (by omega)]

/-- A ratio may be cut by a common factor. -/
theorem rngN_cut (N D j : Nat) (hj : 0 < j) : rngN (N * j) (D * j) = rngN N D := by
  unfold rngN
  rw [Nat.mul_div_mul_right _ _ hj]
  obtain ⟨a, ha⟩ : ∃ a, FV (fl (N / D)) + FV (fl (N / D) + 1) = a := ⟨_, rfl⟩
  rw [ha]
  have e : a * (D * j) = a * D * j := by rw [Nat.mul_assoc]
  have e2 : 2 * (N * j) = 2 * N * j := by rw [Nat.mul_assoc]
  rw [e, e2]
  simp only [Nat.mul_lt_mul_right hj]
theorem nearest_any (s : Bool) (m : Nat) (p : Int) (j : Nat) (hj : 0 ≤ p + 1074 + (j : Int)) : Ieee.double.nearest s m p = fword s (min (rngN (m * 2 ^ (p + 1074 + (j : Int)).toNat) (2 ^ j)) 9218868437227405312) := by
  rcases ilt_or_ge (p + 1074) 0 with h | h
  · obtain ⟨c, hc⟩ : ∃ c : Nat, p = -1074 - (c : Int) := ⟨(-1074 - p).toNat, by omega⟩
    rw [hc, nearest_low]
    have e : (-1074 - (c : Int) + 1074 + (j : Int)).toNat = j - c := by omega
    have e2 : 2 ^ j = 2 ^ c * 2 ^ (j - c) := by rw [← Nat.pow_add]; congr 1; omega
    rw [e, e2, rngN_cut _ _ _ (Nat.two_pow_pos _)]
  · obtain ⟨c, hc⟩ : ∃ c : Nat, p = -1074 + (c : Int) := ⟨(p + 1074).toNat, by omega⟩
    rw [hc, nearest_eq]
    have e : (-1074 + (c : Int) + 1074 + (j : Int)).toNat = c + j := by omega
    have e2 : m * 2 ^ (c + j) = m * 2 ^ c * 2 ^ j := by rw [Nat.pow_add, Nat.mul_assoc]
    rw [e, e2]
    have := rngN_cut (m * 2 ^ c) 1 (2 ^ j) (Nat.two_pow_pos _)
    rw [Nat.one_mul] at this
    rw [this]

/-- Half of a finite pattern. -/
theorem div_two {x : Nat} (h : ffin x) : Ieee.double.div x 4611686018427387904 = some (fword (decide (9223372036854775808 ≤ x)) (min (rngN (FV (x % 9223372036854775808)) 2) 9218868437227405312)) := by
  obtain ⟨k, m, e, hm⟩ := read_num h.1 h.2
  unfold Ieee.Format.div
  have e2 : Ieee.double.read 4611686018427387904 = .number false 4503599627370496 (-51) := rfl
  rw [e, e2]
  have hl2 : Nat.log2 4503599627370496 = 52 := by decide
  show some (Ieee.double.nearest (decide (9223372036854775808 ≤ x) ^^ false) (2 * ((m <<< (54 + Nat.log2 4503599627370496 - m.log2)) / 4503599627370496) + ((m <<< (54 + Nat.log2 4503599627370496 - m.log2)) % 4503599627370496 != 0).toNat)
    (-1074 + (k : Int) - (-51) - ((54 + Nat.log2 4503599627370496 - m.log2 : Nat) : Int) - 1)) = _
  rw [hl2, Bool.xor_false]
  by_cases h0 : m = 0
  · subst h0
    rw [Nat.zero_mul] at hm
    rw [← hm]
    unfold Ieee.Format.nearest
    rw [if_pos (by simp)]
    have : rngN 0 2 = 0 := by decide
    rw [this]
    cases decide (9223372036854775808 ≤ x) <;> rfl
  have hm52 : m.log2 ≤ 52 := by
    have h1 : m < 2 ^ 53 := by
      have e' : Ieee.double.read x = .number (decide (9223372036854775808 ≤ x)) m (-1074 + (k : Nat)) := e
      unfold Ieee.Format.read at e'
      dsimp only at e'
      have hb : Ieee.double.binade = 4503599627370496 := rfl
      rw [hb] at e'
      split at e'
      · rename_i hr
        injection e' with _ e3 _
        omega
      · split at e'
        · injection e' with _ e3 _
          have := Nat.mod_lt (x % Ieee.double.signWeight) (show 0 < 4503599627370496 by omega)
          omega
        · split at e' <;> cases e'
    have := Nat.log2_self_le h0
    have := (Nat.pow_lt_pow_iff_right (a := 2) (by omega)).1 (Nat.lt_of_le_of_lt this h1)
    omega
  obtain ⟨g, hg⟩ : ∃ g, 54 + 52 - m.log2 = 52 + g := ⟨54 - m.log2, by omega⟩
  rw [hg, Nat.shiftLeft_eq]
  have p52 : m * 2 ^ (52 + g) = m * 2 ^ g * 4503599627370496 := by rw [Nat.pow_add, Nat.mul_comm (2 ^ 52), ← Nat.mul_assoc]
  rw [p52, Nat.mul_div_cancel _ (by omega), Nat.mul_mod_left]
  rw [nearest_any _ _ _ (g + 2) (by omega)]
  have e4 : (2 * (m * 2 ^ g) + ((0 : Nat) != 0).toNat) = m * 2 ^ (g + 1) := by rw [Nat.pow_succ]; simp; grind
  rw [e4, show (-1074 + (k : Int) - (-51) - ((52 + g : Nat) : Int) - 1 + 1074 + ((g + 2 : Nat) : Int)).toNat = k by omega]
  have e5 : m * 2 ^ (g + 1) * 2 ^ k = m * 2 ^ k * 2 ^ (g + 1) := by grind
  have e6 : 2 ^ (g + 2) = 2 * 2 ^ (g + 1) := by rw [show g + 2 = (g + 1) + 1 by omega, Nat.pow_succ, Nat.mul_comm]
  rw [e5, e6, rngN_cut _ _ _ (Nat.two_pow_pos _), hm]

/-- Twice rounded is once rounded, where the second halves. -/
theorem rngN_half (n : Nat) : rngN (FV (rngN n 1)) 2 = rngN n 2 := by
  by_cases hs : n < 9007199254740992
  · have h : rnn n = n := rnn_of (Fn_small (by omega))
    unfold rnn at h
    rw [h]
  · obtain ⟨k, t, hk, ht, t1, t2, hf⟩ := fl_parts (show 4503599627370496 ≤ n by omega)
    have hn0 : n ≠ 0 := by omega
    have hk1 : 1 ≤ k := by
      have : 53 ≤ n.log2 := (Nat.le_log2 hn0).2 (by omega)
      omega
    obtain ⟨j, rfl⟩ : ∃ j, k = j + 1 := ⟨k - 1, by omega⟩
    have hj := Nat.two_pow_pos j
    have hf2 : fl (n / 2) = j * 4503599627370496 + t := by
      have h1 := FV_fl_le n
      have h2 := lt_FV_fl n
      rw [FV_succ, hf, FV_scale _ t t1 t2, show ((j + 1) * 4503599627370496 + t) / 4503599627370496 - 1 = j + 1 by omega, Nat.pow_succ] at h2
      rw [hf, FV_scale _ t t1 t2, Nat.pow_succ] at h1
      refine fl_eq ?_ ?_
      · rw [FV_scale j t t1 t2, Nat.le_div_iff_mul_le (by omega), Nat.mul_assoc]; exact h1
      · rw [FV_succ, FV_scale j t t1 t2, show (j * 4503599627370496 + t) / 4503599627370496 - 1 = j by omega, Nat.div_lt_iff_lt_mul (by omega), Nat.add_mul, Nat.mul_assoc]; exact h2
    have hv1 : FV (fl n) = FV (fl (n / 2)) * 2 := by rw [hf, hf2, FV_scale _ t t1 t2, FV_scale _ t t1 t2, Nat.pow_succ, Nat.mul_assoc]
    have hv2 : FV (fl n + 1) = FV (fl (n / 2) + 1) * 2 := by
      rw [FV_succ, FV_succ, hv1, hf, hf2, show ((j + 1) * 4503599627370496 + t) / 4503599627370496 - 1 = j + 1 by omega, show (j * 4503599627370496 + t) / 4503599627370496 - 1 = j by omega, Nat.pow_succ]
      omega
    have e1 : rngN n 2 + 4503599627370496 = rngN n 1 := by
      rw [rngN_one]
      unfold rngN
      rw [hv1, hv2, hf, hf2]
      have e : FV (j * 4503599627370496 + t) * 2 + FV (j * 4503599627370496 + t + 1) * 2 = (FV (j * 4503599627370496 + t) + FV (j * 4503599627370496 + t + 1)) * 2 := by omega
      rw [e]
      split
      · omega
      · split
        · omega
        · split
          · split <;> omega
          · split <;> omega
    obtain ⟨r, hr⟩ : ∃ r, rngN n 2 = r := ⟨_, rfl⟩
    have hr1 : 4503599627370496 ≤ r := by
      have : fl (n / 2) ≤ r := by
        rw [← hr]; unfold rngN
        split
        · omega
        · split
          · omega
          · split <;> omega
      omega
    rw [hr] at e1 ⊢
    rw [← e1]
    -- twice a rung's number is the rung 2^52 further
    have hv : FV (r + 4503599627370496) = FV r * 2 := by
      obtain ⟨e, s, he, s1, s2⟩ : ∃ e s, r = e * 4503599627370496 + s ∧ 4503599627370496 ≤ s ∧ s < 9007199254740992 := ⟨r / 4503599627370496 - 1, r % 4503599627370496 + 4503599627370496, by omega, by omega, by omega⟩
      rw [he, FV_scale e s s1 s2, show e * 4503599627370496 + s + 4503599627370496 = (e + 1) * 4503599627370496 + s by omega, FV_scale (e + 1) s s1 s2, Nat.pow_succ, Nat.mul_assoc]
    rw [hv]
    have := rngN_cut (FV r) 1 2 (by omega)
    rw [Nat.one_mul] at this
    rw [this, rngN_FV]

theorem sum_half (a b : Nat) (ha : a % 2 = 0) (hb : b % 2 = 0) : rngN ((a / 2) + (b / 2)) 1 = rngN (a + b) 2 := by
  have := rngN_cut (a / 2 + b / 2) 1 2 (by omega)
  rw [Nat.one_mul, show (a / 2 + b / 2) * 2 = a + b by omega] at this
  exact this.symm
end Verge
