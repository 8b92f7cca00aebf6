/- Plain words on binary64: rounding what is told in units of the least number; sums. -/
import Derived.Test.YtcomkgmonhidhaaGreatDoorG12
namespace Verge
set_option linter.unusedVariables false
set_option linter.unusedSimpArgs false

/-- The greatest rung whose number is at most q. -/
def fl (q : Nat) : Nat := if q < 4503599627370496 then q else (q.log2 - 52) * 4503599627370496 + q / 2 ^ (q.log2 - 52)

theorem FV_succ (r : Nat) : FV (r + 1) = FV r + 2 ^ (r / 4503599627370496 - 1) := by
  unfold FV
  by_cases h : r < 4503599627370496
  · have hd : r / 4503599627370496 = 0 := Nat.div_eq_of_lt h
    rw [if_pos h, hd]
    by_cases h1 : r + 1 < 4503599627370496
    · rw [if_pos h1]
    · have : r + 1 = 4503599627370496 := by omega
      rw [if_neg h1, this]
  · have h1 : ¬ r + 1 < 4503599627370496 := by omega
    rw [if_neg h, if_neg h1]
    obtain ⟨e, he⟩ : ∃ e, r / 4503599627370496 = e + 1 := ⟨r / 4503599627370496 - 1, by omega⟩
    rw [he]
    by_cases h2 : r % 4503599627370496 + 1 < 4503599627370496
    · have e1 : (r + 1) / 4503599627370496 = e + 1 := by omega
      have e2 : (r + 1) % 4503599627370496 = r % 4503599627370496 + 1 := by omega
      rw [e1, e2, Nat.add_sub_cancel, ← Nat.add_assoc, Nat.add_mul (4503599627370496 + r % 4503599627370496) 1, Nat.one_mul]
    · have e1 : (r + 1) / 4503599627370496 = e + 2 := by omega
      have e2 : (r + 1) % 4503599627370496 = 0 := by omega
      have e3 : r % 4503599627370496 = 4503599627370495 := by omega
      rw [e1, e2, e3, Nat.add_sub_cancel, show e + 2 - 1 = e + 1 by omega, Nat.pow_succ]
      omega
theorem FV_scale (e s : Nat) (h1 : 4503599627370496 ≤ s) (h2 : s < 9007199254740992) : FV (e * 4503599627370496 + s) = s * 2 ^ e := by
  unfold FV
  rw [if_neg (by omega), show (e * 4503599627370496 + s) / 4503599627370496 - 1 = e by omega, show (e * 4503599627370496 + s) % 4503599627370496 = s - 4503599627370496 by omega, show 4503599627370496 + (s - 4503599627370496) = s by omega]
theorem FV_top (e : Nat) : FV (e * 4503599627370496 + 9007199254740992) = 9007199254740992 * 2 ^ e := by
  have := FV_scale (e + 1) 4503599627370496 (by omega) (by omega)
  rw [show e * 4503599627370496 + 9007199254740992 = (e + 1) * 4503599627370496 + 4503599627370496 by omega, this, Nat.pow_succ]
  omega
theorem FV_small {r : Nat} (h : r < 9007199254740992) : FV r = r := by
  by_cases h1 : r < 4503599627370496
  · unfold FV; rw [if_pos h1]
  · have := FV_scale 0 r (by omega) h
    rw [Nat.zero_mul, Nat.zero_add] at this
    rw [this]; simp

/-- The parts of a great q: its exponent and its first 53 bits. -/
theorem fl_parts {q : Nat} (h : 4503599627370496 ≤ q) : ∃ k s, q.log2 = k + 52 ∧ s = q / 2 ^ k ∧ 4503599627370496 ≤ s ∧ s < 9007199254740992 ∧ fl q = k * 4503599627370496 + s := by
  have hq : q ≠ 0 := by omega
  have hl : 52 ≤ q.log2 := (Nat.le_log2 hq).2 (by omega)
  have h1 := Nat.log2_self_le hq
  have h2 := Nat.lt_log2_self (n := q)
  refine ⟨q.log2 - 52, q / 2 ^ (q.log2 - 52), by omega, rfl, ?_, ?_, ?_⟩
  · rw [Nat.le_div_iff_mul_le (Nat.two_pow_pos _)]
    have : 4503599627370496 * 2 ^ (q.log2 - 52) = 2 ^ q.log2 := by
      rw [show (4503599627370496 : Nat) = 2 ^ 52 by rfl, ← Nat.pow_add]; congr 1; omega
    omega
  · rw [Nat.div_lt_iff_lt_mul (Nat.two_pow_pos _)]
    have : 9007199254740992 * 2 ^ (q.log2 - 52) = 2 ^ (q.log2 + 1) := by
      rw [show (9007199254740992 : Nat) = 2 ^ 53 by rfl, ← Nat.pow_add]; congr 1; omega
    omega
  · unfold fl; rw [if_neg (by omega)]
theorem FV_fl_le (q : Nat) : FV (fl q) ≤ q := by
  by_cases h : q < 4503599627370496
  · unfold fl; rw [if_pos h, FV_small (by omega)]; omega
  · obtain ⟨k, s, _, hs, h1, h2, e⟩ := fl_parts (Nat.le_of_not_lt h)
    rw [e, FV_scale k s h1 h2, hs]
    exact Nat.div_mul_le_self q _
theorem lt_FV_fl (q : Nat) : q < FV (fl q + 1) := by
  by_cases h : q < 4503599627370496
  · unfold fl; rw [if_pos h, FV_small (by omega)]; omega
  · obtain ⟨k, s, _, hs, h1, h2, e⟩ := fl_parts (Nat.le_of_not_lt h)
    have : q < (s + 1) * 2 ^ k := by
      rw [hs]
      have := Nat.div_add_mod q (2 ^ k)
      have := Nat.mod_lt q (Nat.two_pow_pos k)
      rw [Nat.add_mul, Nat.one_mul, Nat.mul_comm]
      omega
    rw [FV_succ, e, FV_scale k s h1 h2, show (k * 4503599627370496 + s) / 4503599627370496 - 1 = k by omega]
    rw [Nat.add_mul, Nat.one_mul] at this
    exact this
theorem FV_mono {r s : Nat} (h : r ≤ s) : FV r ≤ FV s := by
  rcases Nat.eq_or_lt_of_le h with h | h
  · subst h; omega
  · exact Nat.le_of_lt (FV_lt h)
theorem FV_le_iff {r q : Nat} : FV r ≤ q ↔ r ≤ fl q := by
  constructor
  · intro h
    rcases Nat.lt_or_ge (fl q) r with h1 | h1
    · have := FV_mono (show fl q + 1 ≤ r from h1)
      have := lt_FV_fl q
      omega
    · exact h1
  · intro h
    exact Nat.le_trans (FV_mono h) (FV_fl_le q)
theorem fl_FV (r : Nat) : fl (FV r) = r := by
  have h1 := FV_le_iff.1 (Nat.le_refl (FV r))
  have h2 := FV_fl_le (FV r)
  rcases Nat.eq_or_lt_of_le h1 with h | h
  · exact h.symm
  · have := FV_lt h; omega
theorem fl_mono {p q : Nat} (h : p ≤ q) : fl p ≤ fl q := FV_le_iff.1 (Nat.le_trans (FV_fl_le p) h)
theorem fl_eq {r q : Nat} (h1 : FV r ≤ q) (h2 : q < FV (r + 1)) : fl q = r := by
  have a := FV_le_iff.1 h1
  rcases Nat.eq_or_lt_of_le a with h | h
  · exact h.symm
  · have := FV_mono (show r + 1 ≤ fl q from h)
    have := FV_fl_le q
    omega

/-- The rung, in a direction of the magnitude: away, near or neither, of N by D units; not held below infinity. -/
def rngA (N D : Nat) : Nat := if FV (fl (N / D)) * D = N then fl (N / D) else fl (N / D) + 1
def rngN (N D : Nat) : Nat :=
  if 2 * N < (FV (fl (N / D)) + FV (fl (N / D) + 1)) * D then fl (N / D)
  else if (FV (fl (N / D)) + FV (fl (N / D) + 1)) * D < 2 * N then fl (N / D) + 1
  else if fl (N / D) % 2 = 0 then fl (N / D) else fl (N / D) + 1
/-- A ratio of units, rounded: d 1 up, -1 down, else to the nearest; s: below 0. -/
def rng (d : Int) (s : Bool) (N D : Nat) : Nat :=
  if d = 1 ∨ d = -1 then (if (d == 1) = !s then min (rngA N D) 9218868437227405312 else min (fl (N / D)) 9218868437227405311) else min (rngN N D) 9218868437227405312
/-- The pattern of a sign and a rung; of 0 without the sign. -/
def fpat (s : Bool) (r : Nat) : Nat := if r = 0 then 0 else if s then 9223372036854775808 + r else r
def fword (s : Bool) (r : Nat) : Nat := if s then 9223372036854775808 + r else r

theorem div_FV {r N D : Nat} (hD : 0 < D) : r ≤ fl (N / D) ↔ FV r * D ≤ N := by
  rw [← FV_le_iff, Nat.le_div_iff_mul_le hD]
theorem fl_div_le (N D : Nat) (hD : 0 < D) : FV (fl (N / D)) * D ≤ N := (div_FV hD).1 (Nat.le_refl _)
theorem lt_fl_div (N D : Nat) (hD : 0 < D) : N < FV (fl (N / D) + 1) * D := by
  rcases Nat.lt_or_ge N (FV (fl (N / D) + 1) * D) with h | h
  · exact h
  · have := (div_FV (N := N) hD).2 h; omega

/-- The model's nearest word. -/
theorem nearest_eq (s : Bool) (m k : Nat) : Ieee.double.nearest s m (-1074 + (k : Nat)) = fword s (min (rngN (m * 2 ^ k) 1) 9218868437227405312) := by
  unfold Ieee.Format.nearest
  by_cases h0 : m = 0
  · subst h0
    rw [if_pos rfl]
    have : rngN (0 * 2 ^ k) 1 = 0 := by rw [Nat.zero_mul]; decide
    rw [this]
    cases s <;> rfl
  rw [if_neg h0]
  have hk0 := Nat.two_pow_pos k
  have hz : m * 2 ^ k ≠ 0 := Nat.mul_ne_zero h0 (by omega)
  have hlog : (m * 2 ^ k).log2 = m.log2 + k := by
    refine (Nat.log2_eq_iff hz).2 ⟨?_, ?_⟩
    · rw [Nat.pow_add]; exact Nat.mul_le_mul_right _ (Nat.log2_self_le h0)
    · rw [show m.log2 + k + 1 = (m.log2 + 1) + k by omega, Nat.pow_add]
      exact Nat.mul_lt_mul_of_pos_right Nat.lt_log2_self hk0
  show fword s (min (((max (-1074 + (k : Int) + (m.log2 : Nat) - (52 : Nat)) (-1074) - (-1074)).toNat * 4503599627370496 +
    Ieee.Toward.even.cut s (m <<< (-1074 + (k : Int) - max (-1074 + (k : Int) + (m.log2 : Nat) - (52 : Nat)) (-1074)).toNat) (max (-1074 + (k : Int) + (m.log2 : Nat) - (52 : Nat)) (-1074) - (-1074 + (k : Int))).toNat)) 9218868437227405312) = _
  congr 2
  by_cases hs : k + m.log2 < 52
  · rw [show max (-1074 + (k : Int) + (m.log2 : Nat) - (52 : Nat)) (-1074) = -1074 by omega]
    rw [show ((-1074 : Int) - (-1074)).toNat = 0 by omega, show (-1074 + (k : Int) - (-1074)).toNat = k by omega, show ((-1074 : Int) - (-1074 + (k : Int))).toNat = 0 by omega]
    have hc : Ieee.Toward.even.cut s (m <<< k) 0 = m * 2 ^ k := by
      unfold Ieee.Toward.cut
      simp [Nat.mod_one, Nat.shiftLeft_eq]
    rw [hc, Nat.zero_mul, Nat.zero_add]
    have hlt : m * 2 ^ k < 4503599627370496 := by
      have h := Nat.lt_log2_self (n := m * 2 ^ k)
      rw [hlog] at h
      exact Nat.lt_of_lt_of_le h (Nat.pow_le_pow_right (by omega) (show m.log2 + k + 1 ≤ 52 by omega))
    have hfl : fl (m * 2 ^ k) = m * 2 ^ k := by unfold fl; rw [if_pos hlt]
    unfold rngN
    rw [Nat.div_one, hfl, FV_small (by omega), FV_small (by omega), if_pos (by omega)]
  · have hge : 4503599627370496 ≤ m * 2 ^ k := by
      have h := Nat.log2_self_le hz
      rw [hlog] at h
      exact Nat.le_trans (show 2 ^ 52 ≤ 2 ^ (m.log2 + k) from Nat.pow_le_pow_right (by omega) (by omega)) h
    obtain ⟨u, t, hu, ht, t1, t2, hf⟩ := fl_parts hge
    rw [hlog] at hu
    rw [show max (-1074 + (k : Int) + (m.log2 : Nat) - (52 : Nat)) (-1074) = -1074 + (u : Int) by omega]
    rw [show (-1074 + (u : Int) - (-1074)).toNat = u by omega, show (-1074 + (k : Int) - (-1074 + (u : Int))).toNat = k - u by omega, show (-1074 + (u : Int) - (-1074 + (k : Int))).toNat = u - k by omega]
    unfold rngN
    rw [Nat.div_one, FV_succ, hf, FV_scale u t t1 t2, show (u * 4503599627370496 + t) / 4503599627370496 - 1 = u by omega]
    have hu0 := Nat.two_pow_pos u
    have hmod := Nat.div_add_mod (m * 2 ^ k) (2 ^ u)
    rw [← ht, Nat.mul_comm] at hmod
    have hml := Nat.mod_lt (m * 2 ^ k) hu0
    rcases Nat.le_total u k with huk | huk
    · have e : 2 ^ k = 2 ^ (k - u) * 2 ^ u := by rw [← Nat.pow_add]; congr 1; omega
      have hz0 : m * 2 ^ k % 2 ^ u = 0 := by rw [e, ← Nat.mul_assoc]; exact Nat.mul_mod_left _ _
      have hc : Ieee.Toward.even.cut s (m <<< (k - u)) (u - k) = t := by
        rw [show u - k = 0 by omega]
        unfold Ieee.Toward.cut
        have : t = m * 2 ^ (k - u) := by
          rw [ht, e, ← Nat.mul_assoc, Nat.mul_div_cancel _ hu0]
        simp [Nat.mod_one, Nat.shiftLeft_eq, this]
      rw [hc, if_pos (by omega)]
    · have e : 2 ^ u = 2 ^ (u - k) * 2 ^ k := by rw [← Nat.pow_add]; congr 1; omega
      have hg0 := Nat.two_pow_pos (u - k)
      have ht' : t = m / 2 ^ (u - k) := by
        rw [ht, e, Nat.mul_div_mul_right _ _ hk0]
      have hr : m * 2 ^ k % 2 ^ u = m % 2 ^ (u - k) * 2 ^ k := by rw [e, Nat.mul_mod_mul_right]
      have hc : Ieee.Toward.even.cut s (m <<< (k - u)) (u - k) = if 2 ^ (u - k) < 2 * (m % 2 ^ (u - k)) ∨ 2 ^ (u - k) = 2 * (m % 2 ^ (u - k)) ∧ t % 2 = 1 then t + 1 else t := by
        rw [show k - u = 0 by omega]
        unfold Ieee.Toward.cut
        rw [Nat.shiftLeft_zero, show min (u - k) (m.log2 + 2) = u - k by omega, Nat.one_shiftLeft]
        dsimp only
        rw [← ht']
        by_cases c1 : 2 ^ (u - k) < 2 * (m % 2 ^ (u - k))
        · simp [c1]
        · by_cases c2 : 2 ^ (u - k) = 2 * (m % 2 ^ (u - k))
          · by_cases c3 : t % 2 = 1
            · simp [c1, ← c2, c3]
            · simp [c1, ← c2, c3]
          · simp [c1, c2]
      rw [hc]
      have hA : 2 ^ (u - k) < 2 * (m % 2 ^ (u - k)) ↔ 2 ^ u < 2 * (m * 2 ^ k % 2 ^ u) := by
        rw [hr, e, ← Nat.mul_assoc]
        exact (Nat.mul_lt_mul_right hk0).symm
      have hB : 2 ^ (u - k) = 2 * (m % 2 ^ (u - k)) ↔ 2 ^ u = 2 * (m * 2 ^ k % 2 ^ u) := by
        rw [hr]
        constructor
        · intro h; rw [e, ← Nat.mul_assoc, ← h]
        · intro h
          rw [e, ← Nat.mul_assoc] at h
          exact Nat.eq_of_mul_eq_mul_right hk0 h
      simp only [hA, hB]
      by_cases c1 : 2 ^ u < 2 * (m * 2 ^ k % 2 ^ u)
      · rw [if_pos (.inl c1), if_neg (by omega), if_pos (by omega)]; omega
      · by_cases c2 : 2 ^ u = 2 * (m * 2 ^ k % 2 ^ u)
        · by_cases c3 : t % 2 = 1
          · rw [if_pos (.inr ⟨c2, c3⟩), if_neg (by omega), if_neg (by omega), if_neg (by omega)]; omega
          · rw [if_neg (by omega), if_neg (by omega), if_neg (by omega), if_pos (by omega)]
        · rw [if_neg (by omega), if_pos (by omega)]
end Verge

/- Plain words on rounding to the nearest among whole numbers of 53 bits: what a sum lacks is exact. -/
namespace Verge
set_option linter.unusedVariables false
set_option linter.unusedSimpArgs false

/-- A natural that is a number of the format (of any size). -/
def Fn (n : Nat) : Prop := FV (fl n) = n
theorem Fn_FV (r : Nat) : Fn (FV r) := by unfold Fn; rw [fl_FV]
theorem Fn_of {m k n : Nat} (hm : m ≤ 9007199254740992) (h : n = m * 2 ^ k) : Fn n := by
  unfold Fn
  have hk := Nat.two_pow_pos k
  rcases Nat.eq_or_lt_of_le hm with e | hm
  · rw [h, e, ← FV_top k, fl_FV]
  by_cases hs : n < 4503599627370496
  · have : fl n = n := by unfold fl; rw [if_pos hs]
    rw [this, FV_small (by omega)]
  · obtain ⟨u, t, hu, ht, t1, t2, hf⟩ := fl_parts (Nat.le_of_not_lt hs)
    rw [hf, FV_scale u t t1 t2]
    have hlt : n < 2 ^ (k + 53) := by
      rw [h, Nat.pow_add, Nat.mul_comm]
      exact Nat.mul_lt_mul_of_pos_left (by omega) hk
    have h1 := Nat.log2_self_le (n := n) (by omega)
    have h2 := (Nat.pow_lt_pow_iff_right (a := 2) (by omega)).1 (Nat.lt_of_le_of_lt h1 hlt)
    have hd : 2 ^ u ∣ n := by
      rw [h]
      exact Nat.dvd_trans (Nat.pow_dvd_pow 2 (show u ≤ k by omega)) (Nat.dvd_mul_left _ _)
    rw [ht]
    exact Nat.div_mul_cancel hd
theorem Fn_small {n : Nat} (h : n ≤ 9007199254740992) : Fn n := Fn_of (k := 0) h (by simp)
theorem Fn_parts {n : Nat} (h : Fn n) : ∃ m k, n = m * 2 ^ k ∧ m < 9007199254740992 ∧ (k = 0 ∨ 4503599627370496 ≤ m) := by
  unfold Fn at h
  by_cases hs : n < 4503599627370496
  · exact ⟨n, 0, by simp, by omega, .inl rfl⟩
  · obtain ⟨u, t, hu, ht, t1, t2, hf⟩ := fl_parts (Nat.le_of_not_lt hs)
    rw [hf, FV_scale u t t1 t2] at h
    exact ⟨t, u, h.symm, t2, .inr t1⟩
/-- The quantum of a lesser number goes up in a greater one. -/
theorem Fn_dvd {n : Nat} (h : Fn n) {j : Nat} (hn : 4503599627370496 * 2 ^ j ≤ n) : 2 ^ j ∣ n := by
  obtain ⟨m, k, e, hm, _⟩ := Fn_parts h
  have hk := Nat.two_pow_pos k
  have h1 : 4503599627370496 * 2 ^ j < 9007199254740992 * 2 ^ k := by
    rw [e] at hn
    exact Nat.lt_of_le_of_lt hn (Nat.mul_lt_mul_of_pos_right hm hk)
  have h2 : 2 ^ j < 2 ^ (k + 1) := by rw [Nat.pow_succ]; omega
  have h3 := (Nat.pow_lt_pow_iff_right (a := 2) (by omega)).1 h2
  rw [e]
  exact Nat.dvd_trans (Nat.pow_dvd_pow 2 (show j ≤ k by omega)) (Nat.dvd_mul_left _ _)

/-- To the nearest, on naturals. -/
def rnn (n : Nat) : Nat := FV (rngN n 1)
theorem rngN_one (n : Nat) : rngN n 1 = if 2 * n < FV (fl n) + FV (fl n + 1) then fl n else if FV (fl n) + FV (fl n + 1) < 2 * n then fl n + 1 else if fl n % 2 = 0 then fl n else fl n + 1 := by
  unfold rngN; rw [Nat.div_one, Nat.mul_one]
theorem rngN_cases (n : Nat) : rngN n 1 = fl n ∨ rngN n 1 = fl n + 1 := by
  rw [rngN_one]; split
  · exact .inl rfl
  · split
    · exact .inr rfl
    · split
      · exact .inl rfl
      · exact .inr rfl
theorem rngN_FV (r : Nat) : rngN (FV r) 1 = r := by
  have := FV_lt (show r < r + 1 by omega)
  rw [rngN_one, fl_FV, if_pos (by omega)]
theorem rnn_Fn (n : Nat) : Fn (rnn n) := Fn_FV _
theorem rnn_of {n : Nat} (h : Fn n) : rnn n = n := by
  unfold Fn at h
  unfold rnn
  have e := rngN_FV (fl n)
  rw [h] at e
  rw [e, h]
theorem rngN_mono {p q : Nat} (h : p ≤ q) : rngN p 1 ≤ rngN q 1 := by
  have hf := fl_mono h
  rcases Nat.eq_or_lt_of_le hf with e | e
  · rw [rngN_one, rngN_one, e]
    by_cases c1 : 2 * p < FV (fl q) + FV (fl q + 1)
    · rw [if_pos c1]; split <;> (try split) <;> (try split) <;> omega
    · rw [if_neg c1, if_neg (show ¬ 2 * q < FV (fl q) + FV (fl q + 1) by omega)]
      by_cases c2 : FV (fl q) + FV (fl q + 1) < 2 * p
      · rw [if_pos c2, if_pos (by omega)]; omega
      · rw [if_neg c2]
        split <;> (try split) <;> (try split) <;> omega
  · have h1 := rngN_cases p
    have h2 := rngN_cases q
    omega
theorem rnn_mono {p q : Nat} (h : p ≤ q) : rnn p ≤ rnn q := FV_mono (rngN_mono h)
theorem rnn_zero : rnn 0 = 0 := rnn_of (Fn_small (by omega))
/-- Nothing is nearer. -/
theorem rnn_near (n g : Nat) (hg : Fn g) : (rnn n - n : Int).natAbs ≤ (g - n : Int).natAbs := by
  have h1 := FV_fl_le n
  have h2 := lt_FV_fl n
  have h3 : g ≤ n → g ≤ FV (fl n) := by
    intro h
    unfold Fn at hg
    have := fl_mono h
    have := FV_mono this
    omega
  have h4 : n < g → FV (fl n + 1) ≤ g := by
    intro h
    unfold Fn at hg
    have : fl n < fl g := by
      rcases Nat.lt_or_ge (fl n) (fl g) with h | h
      · exact h
      · have := FV_mono h; omega
    have := FV_mono (show fl n + 1 ≤ fl g from this)
    omega
  unfold rnn
  rw [rngN_one]
  split
  · rename_i c; rcases Nat.lt_or_ge n g with h | h
    · have := h4 h; omega
    · have := h3 h; omega
  · split
    · rename_i c1 c; rcases Nat.lt_or_ge n g with h | h
      · have := h4 h; omega
      · have := h3 h; omega
    · split
      · rename_i c1 c2 c; rcases Nat.lt_or_ge n g with h | h
        · have := h4 h; omega
        · have := h3 h; omega
      · rename_i c1 c2 c; rcases Nat.lt_or_ge n g with h | h
        · have := h4 h; omega
        · have := h3 h; omega
theorem rnn_gap {n k : Nat} (h : n < 9007199254740992 * 2 ^ (k + 1)) : (rnn n - n : Int).natAbs ≤ 2 ^ k := by
  have h1 := FV_fl_le n
  have h2 := lt_FV_fl n
  have hk := Nat.two_pow_pos k
  have hg : FV (fl n + 1) ≤ FV (fl n) + 2 * 2 ^ k := by
    rw [FV_succ]
    by_cases hs : n < 4503599627370496
    · have : fl n = n := by unfold fl; rw [if_pos hs]
      rw [this, Nat.div_eq_of_lt hs]
      simp
      omega
    · obtain ⟨u, t, hu, ht, t1, t2, hf⟩ := fl_parts (Nat.le_of_not_lt hs)
      rw [hf, show (u * 4503599627370496 + t) / 4503599627370496 - 1 = u by omega]
      have h1 := Nat.log2_self_le (n := n) (by omega)
      have h3 : n < 2 ^ (k + 54) := by
        have : 2 ^ (k + 54) = 9007199254740992 * 2 ^ (k + 1) := by
          rw [show (9007199254740992 : Nat) = 2 ^ 53 by rfl, ← Nat.pow_add]; congr 1; omega
        omega
      have h4 := (Nat.pow_lt_pow_iff_right (a := 2) (by omega)).1 (Nat.lt_of_le_of_lt h1 h3)
      have h5 : 2 ^ u ≤ 2 ^ (k + 1) := Nat.pow_le_pow_right (by omega) (by omega)
      rw [Nat.pow_succ] at h5
      omega
  unfold rnn
  rw [rngN_one]
  split
  · omega
  · split
    · omega
    · split
      · omega
      · omega
theorem rnn_dvd {n j : Nat} (h : 2 ^ j ∣ n) : 2 ^ j ∣ rnn n := by
  by_cases hs : n < 4503599627370496
  · rw [rnn_of (Fn_small (by omega))]; exact h
  · obtain ⟨u, t, hu, ht, t1, t2, hf⟩ := fl_parts (Nat.le_of_not_lt hs)
    rcases Nat.le_total u j with huj | huj
    · have hF : Fn n := by
        unfold Fn
        rw [hf, FV_scale u t t1 t2, ht]
        exact Nat.div_mul_cancel (Nat.dvd_trans (Nat.pow_dvd_pow 2 huj) h)
      rw [rnn_of hF]; exact h
    · have hd : 2 ^ j ∣ 2 ^ u := Nat.pow_dvd_pow 2 huj
      unfold rnn
      rcases rngN_cases n with e | e
      · rw [e, hf, FV_scale u t t1 t2]
        exact Nat.dvd_trans hd (Nat.dvd_mul_left _ _)
      · rw [e, FV_succ, hf, FV_scale u t t1 t2, show (u * 4503599627370496 + t) / 4503599627370496 - 1 = u by omega]
        exact Nat.dvd_add (Nat.dvd_trans hd (Nat.dvd_mul_left _ _)) hd

theorem ilt_or_ge (a b : Int) : a < b ∨ b ≤ a := by omega
/-- On whole numbers. -/
def F (z : Int) : Prop := Fn z.natAbs
def rn (z : Int) : Int := if z < 0 then -((rnn z.natAbs : Nat) : Int) else ((rnn z.natAbs : Nat) : Int)
theorem F_neg {z : Int} (h : F z) : F (-z) := by unfold F at *; rwa [Int.natAbs_neg]
theorem F_nat {n : Nat} (h : Fn n) : F (n : Int) := by unfold F; simpa using h
theorem rn_nat (n : Nat) : rn (n : Int) = (rnn n : Nat) := by unfold rn; rw [if_neg (by omega), Int.natAbs_natCast]
theorem rn_neg (z : Int) : rn (-z) = -rn z := by
  unfold rn
  rw [Int.natAbs_neg]
  by_cases h0 : z = 0
  · subst h0; simp [rnn_zero]
  · by_cases h : z < 0
    · rw [if_neg (by omega), if_pos h]; omega
    · rw [if_pos (by omega), if_neg h]
theorem rn_F (z : Int) : F (rn z) := by
  unfold rn F
  split <;> simp [rnn_Fn]
theorem rn_of {z : Int} (h : F z) : rn z = z := by
  unfold rn
  rw [rnn_of h]
  split <;> omega
theorem rn_mono {y z : Int} (h : y ≤ z) : rn y ≤ rn z := by
  unfold rn
  by_cases hy : y < 0
  · rw [if_pos hy]
    by_cases hz : z < 0
    · rw [if_pos hz]
      have := rnn_mono (show z.natAbs ≤ y.natAbs by omega)
      omega
    · rw [if_neg hz]; omega
  · rw [if_neg hy, if_neg (by omega)]
    have := rnn_mono (show y.natAbs ≤ z.natAbs by omega)
    omega
theorem rn_abs (z : Int) : (rn z).natAbs = rnn z.natAbs := by unfold rn; split <;> omega
theorem rn_near0 (z : Int) (hz : 0 ≤ z) (g : Int) (hg : F g) : (rn z - z).natAbs ≤ (g - z).natAbs := by
  have e : rn z = (rnn z.natAbs : Nat) := by unfold rn; rw [if_neg (by omega)]
  rw [e]
  by_cases h : 0 ≤ g
  · have := rnn_near z.natAbs g.natAbs hg
    omega
  · have := rnn_near z.natAbs 0 (Fn_small (by omega))
    omega
theorem rn_near (z g : Int) (hg : F g) : (rn z - z).natAbs ≤ (g - z).natAbs := by
  by_cases hz : 0 ≤ z
  · exact rn_near0 z hz g hg
  · have := rn_near0 (-z) (by omega) (-g) (F_neg hg)
    rw [rn_neg] at this
    omega
theorem rn_gap {z : Int} {k : Nat} (h : z.natAbs < 9007199254740992 * 2 ^ (k + 1)) : (rn z - z).natAbs ≤ 2 ^ k := by
  have := rnn_gap h
  unfold rn
  split <;> omega
theorem F_dvd {z : Int} (h : F z) {j : Nat} (hn : 4503599627370496 * 2 ^ j ≤ z.natAbs) : ((2 ^ j : Nat) : Int) ∣ z :=
  Int.ofNat_dvd_left.2 (Fn_dvd h hn)
theorem rn_dvd {z : Int} {j : Nat} (h : ((2 ^ j : Nat) : Int) ∣ z) : ((2 ^ j : Nat) : Int) ∣ rn z := by
  have := rnn_dvd (Int.ofNat_dvd_left.1 h)
  refine Int.ofNat_dvd_left.2 ?_
  rw [rn_abs]
  exact this
theorem F_of_dvd {z : Int} {j : Nat} (h : ((2 ^ j : Nat) : Int) ∣ z) (hm : z.natAbs ≤ 9007199254740992 * 2 ^ j) : F z := by
  obtain ⟨c, hc⟩ := Int.ofNat_dvd_left.1 h
  have hj := Nat.two_pow_pos j
  rw [Nat.mul_comm] at hc
  refine Fn_of (m := c) (k := j) ?_ hc
  rw [hc] at hm
  exact Nat.le_of_mul_le_mul_right hm hj
theorem F_zero : F 0 := Fn_small (by simp)

/-- A number's quantum: it is a multiple of 2^j, below 2^53 of them, and so is every number of the format that is not less. -/
theorem F_quantum {b : Int} (h : F b) : ∃ j : Nat, ((2 ^ j : Nat) : Int) ∣ b ∧ b.natAbs < 9007199254740992 * 2 ^ j ∧ ∀ a : Int, F a → b.natAbs ≤ a.natAbs → ((2 ^ j : Nat) : Int) ∣ a := by
  obtain ⟨m, k, e, hm, hc⟩ := Fn_parts h
  have hk := Nat.two_pow_pos k
  refine ⟨k, Int.ofNat_dvd_left.2 (by rw [e]; exact Nat.dvd_mul_left _ _), by rw [e]; exact Nat.mul_lt_mul_of_pos_right hm hk, fun a ha hab => ?_⟩
  rcases hc with hc | hc
  · subst hc; simp
  · refine F_dvd ha ?_
    have : 4503599627370496 * 2 ^ k ≤ m * 2 ^ k := Nat.mul_le_mul_right _ hc
    omega

/-- What a sum lacks is a number of the format. -/
theorem err_F {a b : Int} (ha : F a) (hb : F b) (h : b.natAbs ≤ a.natAbs) : F (a + b - rn (a + b)) := by
  obtain ⟨j, h1, h2, h3⟩ := F_quantum hb
  have h4 := h3 a ha h
  have h5 := Int.dvd_add h4 h1
  have h6 := rn_dvd h5
  have h7 := Int.dvd_sub h5 h6
  refine F_of_dvd h7 ?_
  have := rn_near (a + b) a ha
  omega
/-- Sterbenz. -/
theorem sub_F {x y : Int} (hx : F x) (hy : F y) (h0 : 0 ≤ y) (h1 : y ≤ x) (h2 : x ≤ 2 * y) : F (x - y) := by
  obtain ⟨j, d1, d2, d3⟩ := F_quantum hy
  have d4 := d3 x hx (by omega)
  exact F_of_dvd (Int.dvd_sub d4 d1) (by omega)
theorem F_double {a : Int} (h : F a) : F (2 * a) := by
  obtain ⟨m, k, e, hm, _⟩ := Fn_parts h
  refine Fn_of (m := m) (k := k + 1) (by omega) ?_
  rw [Int.natAbs_mul, e, Nat.pow_succ]
  show 2 * (m * 2 ^ k) = _
  rw [← Nat.mul_assoc, Nat.mul_comm 2 m, Nat.mul_assoc, Nat.mul_comm 2]
/-- The first step of a quick sum is exact. -/
theorem fast0 {a b : Int} (ha : F a) (hb : F b) (h : b.natAbs ≤ a.natAbs) (h0 : 0 ≤ a) : F (rn (a + b) - a) := by
  rcases ilt_or_ge b 0 with hn | hp
  · rcases ilt_or_ge (2 * -b) a with hc | hc
    · have hs1 : rn (a + b) ≤ a := by
        have := rn_mono (show a + b ≤ a by omega)
        rwa [rn_of ha] at this
      have hs2 : a ≤ 2 * rn (a + b) := by
        obtain ⟨m, k, e, hm, hk⟩ := Fn_parts ha
        rcases Nat.eq_zero_or_pos k with h00 | hpos
        · subst h00
          have hF : F (a + b) := by
            refine Fn_small ?_
            simp at e
            omega
          rw [rn_of hF]; omega
        · have e2 : a.natAbs = 2 * (m * 2 ^ (k - 1)) := by
            rw [e, show k = (k - 1) + 1 by omega, Nat.pow_succ, Nat.add_sub_cancel]
            rw [← Nat.mul_assoc, Nat.mul_comm]
          have hF : F ((m * 2 ^ (k - 1) : Nat) : Int) := F_nat (Fn_of (by omega) rfl)
          have := rn_mono (show ((m * 2 ^ (k - 1) : Nat) : Int) ≤ a + b by omega)
          rw [rn_of hF] at this
          omega
      have := sub_F ha (rn_F (a + b)) (by omega) hs1 hs2
      have := F_neg this
      rwa [Int.neg_sub] at this
    · have hF : F (a + b) := by
        have := sub_F ha (F_neg hb) (by omega) (by omega) hc
        rwa [Int.sub_neg] at this
      rw [rn_of hF]
      rwa [show a + b - a = b by omega]
  · have hs1 : a ≤ rn (a + b) := by
      have := rn_mono (show a ≤ a + b by omega)
      rwa [rn_of ha] at this
    have hs2 : rn (a + b) ≤ 2 * a := by
      have := rn_mono (show a + b ≤ 2 * a by omega)
      rwa [rn_of (F_double ha)] at this
    obtain ⟨j, d1, d2, d3⟩ := F_quantum ha
    have d4 := d3 _ (rn_F (a + b)) (by omega)
    exact F_of_dvd (Int.dvd_sub d4 d1) (by omega)
theorem fast_F {a b : Int} (ha : F a) (hb : F b) (h : b.natAbs ≤ a.natAbs) : F (rn (a + b) - a) := by
  rcases ilt_or_ge a 0 with h0 | h0
  · have := fast0 (F_neg ha) (F_neg hb) (by omega) (by omega)
    rw [show -a + -b = -(a + b) by omega, rn_neg] at this
    have := F_neg this
    rwa [show -(-rn (a + b) - -a) = rn (a + b) - a by omega] at this
  · exact fast0 ha hb h h0

/-- The middle step where the first was the lesser. -/
theorem far0 {x y : Int} (hx : F x) (hy : F y) (h : x.natAbs < y.natAbs) (h0 : 0 ≤ y) : F (y - rn (rn (x + y) - x)) := by
  obtain ⟨m, k, e, hm, hc⟩ := Fn_parts hy
  have hk := Nat.two_pow_pos k
  have hlt : (x + y).natAbs < 9007199254740992 * 2 ^ (k + 1) := by
    have : m * 2 ^ k < 9007199254740992 * 2 ^ k := Nat.mul_lt_mul_of_pos_right hm hk
    rw [Nat.pow_succ]
    omega
  have hg := rn_gap hlt
  obtain ⟨s, hs⟩ : ∃ s, rn (x + y) = s := ⟨_, rfl⟩
  rw [hs] at hg ⊢
  rcases Nat.eq_zero_or_pos k with h00 | hpos
  · subst h00
    have hF : F (s - x) := by
      refine Fn_small ?_
      simp at e hg
      omega
    rw [rn_of hF]
    have := err_F hy hx (by omega)
    rw [Int.add_comm y x, hs] at this
    rwa [show y - (s - x) = x + y - s by omega]
  · have hm2 : 4503599627370496 ≤ m := by omega
    have f1 : F (((m - 1) * 2 ^ k : Nat) : Int) := F_nat (Fn_of (by omega) rfl)
    have f2 : F (((m + 1) * 2 ^ k : Nat) : Int) := F_nat (Fn_of (by omega) rfl)
    have e1 : (m - 1) * 2 ^ k + 2 ^ k = m * 2 ^ k := by rw [← Nat.succ_mul, Nat.succ_eq_add_one, Nat.sub_add_cancel (by omega)]
    have e2 : (m + 1) * 2 ^ k = m * 2 ^ k + 2 ^ k := Nat.succ_mul m (2 ^ k)
    have l1 := rn_mono (show (((m - 1) * 2 ^ k : Nat) : Int) ≤ s - x by omega)
    have l2 := rn_mono (show s - x ≤ (((m + 1) * 2 ^ k : Nat) : Int) by omega)
    rw [rn_of f1] at l1
    rw [rn_of f2] at l2
    obtain ⟨t, ht⟩ : ∃ t, rn (s - x) = t := ⟨_, rfl⟩
    have hFt : F t := ht ▸ rn_F _
    rw [ht] at l1 l2 ⊢
    have p1 : 2 ^ k = 2 * 2 ^ (k - 1) := by rw [show k = (k - 1) + 1 by omega, Nat.pow_succ, Nat.add_sub_cancel, Nat.mul_comm]
    have hmk : 4503599627370496 * 2 ^ k ≤ m * 2 ^ k := Nat.mul_le_mul_right _ hm2
    have d1 : ((2 ^ (k - 1) : Nat) : Int) ∣ t := F_dvd hFt (by omega)
    have d2 : ((2 ^ (k - 1) : Nat) : Int) ∣ y := F_dvd hy (by omega)
    exact F_of_dvd (Int.dvd_sub d2 d1) (by omega)
theorem far_F {x y : Int} (hx : F x) (hy : F y) (h : x.natAbs < y.natAbs) : F (y - rn (rn (x + y) - x)) := by
  rcases ilt_or_ge y 0 with h0 | h0
  · have := far0 (F_neg hx) (F_neg hy) (by omega) (by omega)
    rw [show -x + -y = -(x + y) by omega, rn_neg, show -rn (x + y) - -x = -(rn (x + y) - x) by omega, rn_neg] at this
    have := F_neg this
    rwa [show -(-y - -rn (rn (x + y) - x)) = y - rn (rn (x + y) - x) by omega] at this
  · exact far0 hx hy h h0

/-- What the quick road of a sum reckons is just what the sum lacks. -/
theorem two_sum {x y s t p q : Int} (hx : F x) (hy : F y) (hs : s = rn (x + y)) (ht : t = rn (s - x)) (hp : p = rn (x - rn (s - t))) (hq : q = rn (y - t)) :
    rn (p + q) = x + y - s := by
  have hsF : F s := hs ▸ rn_F _
  rcases Nat.lt_or_ge x.natAbs y.natAbs with h | h
  · rcases Nat.lt_or_ge s.natAbs x.natAbs with h2 | h2
    · -- the sum cancels, and is exact
      have h3 : (x + y).natAbs ≤ x.natAbs := by
        rcases Nat.lt_or_ge x.natAbs (x + y).natAbs with h4 | h4
        · have := rnn_mono (show x.natAbs ≤ (x + y).natAbs by omega)
          rw [rnn_of hx, ← rn_abs, ← hs] at this
          omega
        · exact h4
      have hF : F (x + y) := by
        rcases ilt_or_ge y 0 with h0 | h0
        · have := F_neg (sub_F (F_neg hy) hx (by omega) (by omega) (by omega))
          rwa [show -(-y - x) = x + y by omega] at this
        · have := sub_F hy (F_neg hx) (by omega) (by omega) (by omega)
          rwa [show y - -x = x + y by omega] at this
      rw [rn_of hF] at hs
      have e1 : t = y := by rw [ht, show s - x = y by omega, rn_of hy]
      have e2 : p = 0 := by rw [hp, e1, show s - y = x by omega, rn_of hx, Int.sub_self]; exact rn_of F_zero
      have e3 : q = 0 := by rw [hq, e1, Int.sub_self]; exact rn_of F_zero
      rw [e2, e3]
      show rn 0 = _
      rw [rn_of F_zero]; omega
    · have f1 := fast_F hsF (F_neg hx) (by omega)
      rw [show s + -x = s - x by omega, ← ht] at f1
      have f2 := err_F hsF (F_neg hx) (by omega)
      rw [show s + -x = s - x by omega, ← ht] at f2
      have f3 := F_neg f1
      rw [show -(t - s) = s - t by omega] at f3
      have e1 : p = x - (s - t) := by
        rw [hp, rn_of f3]
        have := F_neg f2
        rw [show -(s - x - t) = x - (s - t) by omega] at this
        exact rn_of this
      have f4 := far_F hx hy h
      rw [← hs, ← ht] at f4
      rw [rn_of f4] at hq
      have f5 := err_F hy hx (by omega)
      rw [Int.add_comm y x, ← hs] at f5
      rw [e1, hq, show x - (s - t) + (y - t) = x + y - s by omega, rn_of f5]
  · have f1 := fast_F hx hy h
    rw [← hs] at f1
    rw [rn_of f1] at ht
    have e1 : p = 0 := by rw [hp, ht, show s - (s - x) = x by omega, rn_of hx, Int.sub_self]; exact rn_of F_zero
    have f2 := err_F hx hy h
    rw [← hs] at f2
    have e2 : q = x + y - s := by rw [hq, ht, show y - (s - x) = x + y - s by omega, rn_of f2]
    rw [e1, e2, Int.zero_add, rn_of f2]
end Verge

/- Plain words on binary64: sums and differences of patterns, the quick road, the number above. -/
namespace Verge
set_option linter.unusedVariables false
set_option linter.unusedSimpArgs false

/-- A finite pattern's number, in units. -/
def fv (x : Nat) : Int := if 9223372036854775808 ≤ x then -((FV (x % 9223372036854775808) : Nat) : Int) else ((FV (x % 9223372036854775808) : Nat) : Int)
def ffin (x : Nat) : Prop := x < 18446744073709551616 ∧ x % 9223372036854775808 < 9218868437227405312

theorem fv_word {s : Bool} {r : Nat} (h : r < 9223372036854775808) : fv (fword s r) = if s then -((FV r : Nat) : Int) else ((FV r : Nat) : Int) := by
  unfold fv fword
  cases s
  · simp only [Bool.false_eq_true, if_false]
    rw [if_neg (by omega), Nat.mod_eq_of_lt h]
  · simp only [if_true]
    rw [if_pos (by omega), show (9223372036854775808 + r) % 9223372036854775808 = r by omega]
theorem ffin_word {s : Bool} {r : Nat} (h : r < 9218868437227405312) : ffin (fword s r) := by
  unfold ffin fword
  cases s
  · simp only [Bool.false_eq_true, if_false]; omega
  · simp only [if_true]; omega
theorem word_of {x : Nat} (h : ffin x) : x = fword (decide (9223372036854775808 ≤ x)) (x % 9223372036854775808) := by
  unfold ffin at h
  unfold fword
  by_cases c : 9223372036854775808 ≤ x
  · simp only [c, decide_true, if_true]; omega
  · simp only [c, decide_false, Bool.false_eq_true, if_false]; omega
theorem fv_F (x : Nat) : F (fv x) := by
  unfold fv F
  split <;> simp [Fn_FV]
theorem fv_abs (x : Nat) : (fv x).natAbs = FV (x % 9223372036854775808) := by unfold fv; split <;> omega

theorem signed_fv {s : Bool} {x m k c : Nat} (hc : c ≤ k) (hm : m * 2 ^ k = FV (x % 9223372036854775808)) (hs : s = decide (9223372036854775808 ≤ x)) : Ieee.signed s m (k - c) * ((2 ^ c : Nat) : Int) = fv x := by
  have := signed_scale s m k c hc
  rw [Int.mul_comm, this, hm, hs]
  unfold fv
  by_cases h : 9223372036854775808 ≤ x <;> simp [h]
theorem signed_not (s : Bool) (m u : Nat) : Ieee.signed (!s) m u = -Ieee.signed s m u := by
  unfold Ieee.signed
  cases s <;> simp

/-- A sum of two finite patterns, whose parts are told. -/
theorem sum_parts {s t : Bool} {m n k l : Nat} {a b : Int} (ha : ∀ c, c ≤ k → Ieee.signed s m (k - c) * ((2 ^ c : Nat) : Int) = a) (hb : ∀ c, c ≤ l → Ieee.signed t n (l - c) * ((2 ^ c : Nat) : Int) = b) :
    (Ieee.Datum.sum (.number s m (-1074 + (k : Nat))) (.number t n (-1074 + (l : Nat)))).map Ieee.double.write =
      some (fword (if a + b = 0 then s && t else decide (a + b < 0)) (min (rngN (a + b).natAbs 1) 9218868437227405312)) := by
  unfold Ieee.Datum.sum
  obtain ⟨c, hc⟩ : ∃ c : Nat, c = min k l := ⟨_, rfl⟩
  have e0 : min (-1074 + (k : Int)) (-1074 + (l : Int)) = -1074 + (c : Int) := by omega
  have e1 : (-1074 + (k : Int) - (-1074 + (c : Int))).toNat = k - c := by omega
  have e2 : (-1074 + (l : Int) - (-1074 + (c : Int))).toNat = l - c := by omega
  simp only [e0, e1, e2]
  have h1 := ha c (by omega)
  have h2 := hb c (by omega)
  obtain ⟨T, hT⟩ : ∃ T, Ieee.signed s m (k - c) + Ieee.signed t n (l - c) = T := ⟨_, rfl⟩
  have h3 : T * ((2 ^ c : Nat) : Int) = a + b := by rw [← hT, Int.add_mul, h1, h2]
  rw [hT]
  have hp := Nat.two_pow_pos c
  have h4 : T.natAbs * 2 ^ c = (a + b).natAbs := by rw [← h3, Int.natAbs_mul, Int.natAbs_natCast]
  show some (Ieee.double.nearest (if T = 0 then s && t else decide (T < 0)) T.natAbs (-1074 + (c : Int))) = _
  rw [nearest_eq, h4]
  have h5 : (T = 0) ↔ (a + b = 0) := by
    constructor
    · intro h; rw [← h3, h, Int.zero_mul]
    · intro h
      have : T.natAbs * 2 ^ c = 0 := by rw [h4, h]; rfl
      rcases Nat.mul_eq_zero.1 this with h | h <;> omega
  have h6 : (T < 0) ↔ (a + b < 0) := by
    rw [← h3]
    constructor
    · intro h; exact Int.mul_neg_of_neg_of_pos h (by omega)
    · intro h
      rcases ilt_or_ge T 0 with h7 | h7
      · exact h7
      · have := Int.mul_nonneg h7 (show (0 : Int) ≤ ((2 ^ c : Nat) : Int) by omega); omega
  simp only [h5, h6]
theorem add_fin {x y : Nat} (hx : ffin x) (hy : ffin y) : Ieee.double.add x y =
    some (fword (if fv x + fv y = 0 then decide (9223372036854775808 ≤ x) && decide (9223372036854775808 ≤ y) else decide (fv x + fv y < 0)) (min (rngN (fv x + fv y).natAbs 1) 9218868437227405312)) := by
  obtain ⟨k, m, e, hm⟩ := read_num hx.1 hx.2
  obtain ⟨l, n, f, hn⟩ := read_num hy.1 hy.2
  unfold Ieee.Format.add
  rw [e, f]
  exact sum_parts (fun c hc => signed_fv hc hm rfl) (fun c hc => signed_fv hc hn rfl)
theorem sub_fin {x y : Nat} (hx : ffin x) (hy : ffin y) : Ieee.double.sub x y =
    some (fword (if fv x - fv y = 0 then decide (9223372036854775808 ≤ x) && !decide (9223372036854775808 ≤ y) else decide (fv x - fv y < 0)) (min (rngN (fv x - fv y).natAbs 1) 9218868437227405312)) := by
  obtain ⟨k, m, e, hm⟩ := read_num hx.1 hx.2
  obtain ⟨l, n, f, hn⟩ := read_num hy.1 hy.2
  unfold Ieee.Format.sub
  rw [e, f]
  have := sum_parts (s := decide (9223372036854775808 ≤ x)) (t := !decide (9223372036854775808 ≤ y)) (m := m) (n := n) (k := k) (l := l) (a := fv x) (b := -fv y) (fun c hc => signed_fv hc hm rfl) (fun c hc => by
    rw [signed_not, Int.neg_mul, signed_fv hc hn rfl])
  rw [← Int.sub_eq_add_neg] at this
  exact this

/-- The bound 2^(52 + e) units. -/
def MB (e : Nat) : Nat := 4503599627370496 * 2 ^ e
theorem MB_succ (e : Nat) : MB (e + 1) = 2 * MB e := by unfold MB; rw [Nat.pow_succ]; omega
theorem MB_rung (e : Nat) : MB e = FV ((e + 1) * 4503599627370496) := by
  have := FV_scale e 4503599627370496 (by omega) (by omega)
  rw [show (e + 1) * 4503599627370496 = e * 4503599627370496 + 4503599627370496 by omega, this]
  rfl
theorem MB_pos (e : Nat) : 0 < MB e := Nat.mul_pos (by omega) (Nat.two_pow_pos e)
theorem rng_MB {n e : Nat} (h : n ≤ MB e) : rngN n 1 ≤ (e + 1) * 4503599627370496 := by
  have := rngN_mono h
  rw [MB_rung, rngN_FV] at this
  exact this
theorem rn_MB {z : Int} {e : Nat} (h : z.natAbs ≤ MB e) : (rn z).natAbs ≤ MB e := by
  rw [rn_abs]
  have := rnn_mono h
  rw [MB_rung] at this ⊢
  rw [rnn_of (Fn_FV _)] at this
  exact this

/-- A word that the model writes for a whole number of units. -/
def fnw (z0 : Bool) (z : Int) : Nat := fword (if z = 0 then z0 else decide (z < 0)) (min (rngN z.natAbs 1) 9218868437227405312)
theorem fnw_fv {z0 : Bool} {z : Int} {e : Nat} (he : e ≤ 2045) (h : z.natAbs ≤ MB e) : ffin (fnw z0 z) ∧ fv (fnw z0 z) = rn z := by
  have h1 := rng_MB h
  have h2 : rngN z.natAbs 1 < 9218868437227405312 := by
    have : (e + 1) * 4503599627370496 ≤ 2046 * 4503599627370496 := Nat.mul_le_mul_right _ (by omega)
    omega
  unfold fnw
  rw [Nat.min_eq_left (by omega)]
  refine ⟨ffin_word h2, ?_⟩
  rw [fv_word (by omega)]
  unfold rn
  by_cases h0 : z = 0
  · subst h0
    have : rngN (0 : Int).natAbs 1 = 0 := by decide
    have h3 : rnn (0 : Int).natAbs = 0 := rnn_zero
    rw [this, h3]; simp [FV_zero]
  · rw [if_neg h0]
    by_cases hn : z < 0
    · simp only [hn, decide_true, if_true]; rfl
    · simp only [hn, decide_false, Bool.false_eq_true, if_false]; rfl

theorem ffin_bound {x e : Nat} (he : e ≤ 2045) (h : x % 9223372036854775808 ≤ (e + 1) * 4503599627370496) : (fv x).natAbs ≤ MB e := by
  rw [fv_abs, MB_rung]
  exact FV_mono h

/-- The quick road of a sum: all its steps, and what they tell. -/
theorem quick_sum {x y e : Nat} (he : e ≤ 2040) (hx : ffin x) (hy : ffin y) (bx : (fv x).natAbs ≤ MB e) (by_ : (fv y).natAbs ≤ MB e) :
    ∃ s t a b c d : Nat, Ieee.double.add x y = some s ∧ Ieee.double.sub s x = some t ∧ Ieee.double.sub s t = some a ∧ Ieee.double.sub x a = some b ∧ Ieee.double.sub y t = some c ∧ Ieee.double.add b c = some d ∧
      ffin s ∧ ffin t ∧ ffin a ∧ ffin b ∧ ffin c ∧ ffin d ∧ fv s = rn (fv x + fv y) ∧ fv d = fv x + fv y - fv s := by
  have m1 := MB_succ e
  have m2 : MB (e + 2) = 2 * MB (e + 1) := MB_succ (e + 1)
  have m3 : MB (e + 3) = 2 * MB (e + 2) := MB_succ (e + 2)
  have m4 : MB (e + 4) = 2 * MB (e + 3) := MB_succ (e + 3)
  have m5 : MB (e + 5) = 2 * MB (e + 4) := MB_succ (e + 4)
  obtain ⟨X, hX⟩ : ∃ X, fv x = X := ⟨_, rfl⟩
  obtain ⟨Y, hY⟩ : ∃ Y, fv y = Y := ⟨_, rfl⟩
  have FX : F X := hX ▸ fv_F x
  have FY : F Y := hY ▸ fv_F y
  rw [hX] at bx
  rw [hY] at by_
  have add' : ∀ {p q : Nat}, ffin p → ffin q → ∃ z0, Ieee.double.add p q = some (fnw z0 (fv p + fv q)) := fun hp hq => ⟨_, add_fin hp hq⟩
  have sub' : ∀ {p q : Nat}, ffin p → ffin q → ∃ z0, Ieee.double.sub p q = some (fnw z0 (fv p - fv q)) := fun hp hq => ⟨_, sub_fin hp hq⟩
  obtain ⟨z1, e1⟩ := add' hx hy
  rw [hX, hY] at e1
  obtain ⟨f1, v1⟩ := fnw_fv (z0 := z1) (z := X + Y) (e := e + 1) (by omega) (by omega)
  have b1 := rn_MB (z := X + Y) (e := e + 1) (by omega)
  obtain ⟨z2, e2⟩ := sub' f1 hx
  rw [v1, hX] at e2
  obtain ⟨S, hS⟩ : ∃ S, rn (X + Y) = S := ⟨_, rfl⟩
  rw [hS] at e2 v1 b1
  obtain ⟨f2, v2⟩ := fnw_fv (z0 := z2) (z := S - X) (e := e + 2) (by omega) (by omega)
  have b2 := rn_MB (z := S - X) (e := e + 2) (by omega)
  obtain ⟨T, hT⟩ : ∃ T, rn (S - X) = T := ⟨_, rfl⟩
  rw [hT] at v2 b2
  obtain ⟨z3, e3⟩ := sub' f1 f2
  rw [v1, v2] at e3
  obtain ⟨f3, v3⟩ := fnw_fv (z0 := z3) (z := S - T) (e := e + 3) (by omega) (by omega)
  have b3 := rn_MB (z := S - T) (e := e + 3) (by omega)
  obtain ⟨A, hA⟩ : ∃ A, rn (S - T) = A := ⟨_, rfl⟩
  rw [hA] at v3 b3
  obtain ⟨z4, e4⟩ := sub' hx f3
  rw [hX, v3] at e4
  obtain ⟨f4, v4⟩ := fnw_fv (z0 := z4) (z := X - A) (e := e + 4) (by omega) (by omega)
  have b4 := rn_MB (z := X - A) (e := e + 4) (by omega)
  obtain ⟨B, hB⟩ : ∃ B, rn (X - A) = B := ⟨_, rfl⟩
  rw [hB] at v4 b4
  obtain ⟨z5, e5⟩ := sub' hy f2
  rw [hY, v2] at e5
  obtain ⟨f5, v5⟩ := fnw_fv (z0 := z5) (z := Y - T) (e := e + 3) (by omega) (by omega)
  have b5 := rn_MB (z := Y - T) (e := e + 3) (by omega)
  obtain ⟨C, hC⟩ : ∃ C, rn (Y - T) = C := ⟨_, rfl⟩
  rw [hC] at v5 b5
  obtain ⟨z6, e6⟩ := add' f4 f5
  rw [v4, v5] at e6
  obtain ⟨f6, v6⟩ := fnw_fv (z0 := z6) (z := B + C) (e := e + 5) (by omega) (by omega)
  refine ⟨_, _, _, _, _, _, e1, e2, e3, e4, e5, e6, f1, f2, f3, f4, f5, f6, ?_, ?_⟩
  · rw [v1, hX, hY, hS]
  · rw [v6, v1, hX, hY]
    exact two_sum FX FY hS.symm hT.symm (by rw [hA, hB]) hC.symm
end Verge

/- Plain words on binary64: a whole number of units, rounded up; the next pattern above. -/
namespace Verge
set_option linter.unusedVariables false
set_option linter.unusedSimpArgs false

/-- A whole number of units, rounded up: its pattern. -/
def upz (z : Int) : Nat := fpat (decide (z < 0)) (rng 1 (decide (z < 0)) z.natAbs 1)
theorem rngA_one (n : Nat) : rngA n 1 = if FV (fl n) = n then fl n else fl n + 1 := by unfold rngA; rw [Nat.div_one, Nat.mul_one]
theorem upz_neg {z : Int} (h : z < 0) : upz z = fpat true (min (fl z.natAbs) 9218868437227405311) := by
  unfold upz rng
  simp [h]
theorem upz_pos {z : Int} (h : ¬ z < 0) : upz z = fpat false (min (rngA z.natAbs 1) 9218868437227405312) := by
  unfold upz rng
  simp [h]
/-- A pattern's number without the sign of 0. -/
theorem fz_word {s : Bool} {r : Nat} (h : r < 9218868437227405312) : fz (fword s r) = fpat s r := by
  unfold fz fword fpat
  cases s
  · simp only [Bool.false_eq_true, if_false]
    by_cases h0 : r = 0
    · rw [if_pos (.inl h0), if_pos h0]
    · rw [if_neg (by omega), if_neg h0]
  · simp only [if_true]
    by_cases h0 : r = 0
    · rw [if_pos (.inr (by omega)), if_pos h0]
    · rw [if_neg (by omega), if_neg h0]

/-- A finite pattern by its number. -/
theorem word_fv {x : Nat} (h : ffin x) : fz x = fpat (decide (fv x < 0)) (fl (fv x).natAbs) := by
  rw [fv_abs, fl_FV]
  have e := word_of h
  have hr := h.2
  conv => lhs; rw [e]
  rw [fz_word hr]
  unfold fpat
  by_cases h0 : x % 9223372036854775808 = 0
  · rw [if_pos h0, if_pos h0]
  · rw [if_neg h0, if_neg h0]
    have hp : 0 < FV (x % 9223372036854775808) := by
      have := FV_lt (show 0 < x % 9223372036854775808 by omega)
      rw [FV_zero] at this; exact this
    unfold fv
    by_cases c : 9223372036854775808 ≤ x
    · rw [if_pos c]
      simp only [c, decide_true, if_true]
      rw [if_pos (by simp; omega)]
    · rw [if_neg c]
      simp only [c, decide_false, Bool.false_eq_true, if_false]
      rw [if_neg (by simp)]

theorem rn_cases (z : Int) : (rn z).natAbs = FV (fl z.natAbs) ∨ (rn z).natAbs = FV (fl z.natAbs + 1) := by
  rw [rn_abs]
  unfold rnn
  rcases rngN_cases z.natAbs with e | e <;> rw [e]
  · exact .inl rfl
  · exact .inr rfl
theorem rn_sign (z : Int) : (0 ≤ z → 0 ≤ rn z) ∧ (z ≤ 0 → rn z ≤ 0) := by
  constructor
  · intro h
    have := rn_mono h
    rwa [rn_of F_zero] at this
  · intro h
    have := rn_mono h
    rwa [rn_of F_zero] at this
theorem fl_lt_inf {n e : Nat} (he : e ≤ 2044) (h : n ≤ MB e) : fl n + 1 < 9218868437227405311 := by
  have := fl_mono h
  rw [MB_rung, fl_FV] at this
  have : (e + 1) * 4503599627370496 ≤ 2045 * 4503599627370496 := Nat.mul_le_mul_right _ (by omega)
  omega

/-- Where the nearest is not below, it is the number rounded up. -/
theorem up_same {s : Nat} {z : Int} {e : Nat} (he : e ≤ 2044) (hz : z.natAbs ≤ MB e) (h : ffin s) (hs : fv s = rn z) (hle : z ≤ fv s) : fz s = upz z := by
  rw [word_fv h, hs]
  rw [hs] at hle
  have hb := fl_lt_inf he hz
  have h1 := FV_fl_le z.natAbs
  have h2 := lt_FV_fl z.natAbs
  have hc := rn_cases z
  have hsg := rn_sign z
  by_cases hn : z < 0
  · have hr : (rn z).natAbs = FV (fl z.natAbs) := by
      have := hsg.2 (by omega)
      rcases hc with hc | hc <;> omega
    rw [upz_neg hn, hr, fl_FV, Nat.min_eq_left (by omega)]
    by_cases h0 : fl z.natAbs = 0
    · rw [h0]; simp [fpat]
    · have : 0 < FV (fl z.natAbs) := by
        have := FV_lt (show 0 < fl z.natAbs by omega)
        rw [FV_zero] at this; exact this
      have := hsg.2 (by omega)
      rw [decide_eq_true (by omega)]
  · rw [upz_pos hn, rngA_one, decide_eq_false (by have := hsg.1 (by omega); omega)]
    have := hsg.1 (by omega)
    rcases hc with hc | hc
    · rw [hc, fl_FV, if_pos (by omega), Nat.min_eq_left (by omega)]
    · by_cases hx : FV (fl z.natAbs) = z.natAbs
      · have hF : F z := hx
        rw [rn_of hF] at hc
        omega
      · rw [hc, fl_FV, if_neg hx, Nat.min_eq_left (by omega)]
/-- The pattern above a finite one that is not 0. -/
def fup (s : Nat) : Nat := if s < 9223372036854775808 then s + 1 else s - 1
theorem up_next {s : Nat} {z : Int} {e : Nat} (he : e ≤ 2044) (hz : z.natAbs ≤ MB e) (h : ffin s) (hs : fv s = rn z) (hlt : fv s < z) : fv s ≠ 0 ∧ fz (fup s) = upz z ∧ ffin (fup s) := by
  have hb := fl_lt_inf he hz
  have h1 := FV_fl_le z.natAbs
  have h2 := lt_FV_fl z.natAbs
  have hc := rn_cases z
  have hsg := rn_sign z
  have hz0 : z ≠ 0 := by
    rintro rfl
    rw [rn_of F_zero] at hs
    omega
  have hff : 0 < fl z.natAbs ∧ 0 < FV (fl z.natAbs) := by
    have hp : 0 < fl z.natAbs := FV_le_iff.1 (by rw [FV_small (by omega)]; omega)
    have := FV_lt hp
    rw [FV_zero] at this
    exact ⟨hp, this⟩
  have hw := word_fv h
  have hne : fv s ≠ 0 := by
    rw [hs]
    intro h0
    rw [h0] at hc
    have := FV_lt (show fl z.natAbs < fl z.natAbs + 1 by omega)
    simp at hc
    omega
  have hsne : ¬ (s = 0 ∨ s = 9223372036854775808) := by
    rintro (rfl | rfl)
    · exact hne rfl
    · exact hne rfl
  have hfz : fz s = s := by unfold fz; rw [if_neg hsne]
  rw [hfz] at hw
  refine ⟨hne, ?_⟩
  rw [hs] at hw hlt
  by_cases hn : z < 0
  · have hr : (rn z).natAbs = FV (fl z.natAbs + 1) := by
      have := hsg.2 (by omega)
      rcases hc with hc | hc <;> omega
    have hneg : rn z < 0 := by omega
    rw [hr, fl_FV, decide_eq_true hneg] at hw
    have hs' : s = 9223372036854775808 + (fl z.natAbs + 1) := by rw [hw]; simp [fpat]
    have : fup s = fword true (fl z.natAbs) := by
      unfold fup fword; rw [if_neg (by omega), if_pos rfl]; omega
    rw [this, fz_word (by omega), upz_neg hn, Nat.min_eq_left (by omega)]
    exact ⟨rfl, ffin_word (by omega)⟩
  · have h3 := hsg.1 (by omega)
    have hr : (rn z).natAbs = FV (fl z.natAbs) := by
      rcases hc with hc | hc <;> omega
    rw [hr, fl_FV, decide_eq_false (by omega)] at hw
    have hs' : s = fl z.natAbs := by rw [hw]; unfold fpat; rw [if_neg (by omega)]; simp
    have : fup s = fword false (fl z.natAbs + 1) := by
      unfold fup fword; rw [if_pos (by omega), hs']; simp
    rw [this, fz_word (by omega), upz_pos hn, rngA_one, if_neg (by omega), Nat.min_eq_left (by omega)]
    exact ⟨rfl, ffin_word (by omega)⟩
end Verge

/- Plain words on binary64: the nearest to a dyadic ratio; halves; the middle of two. -/
namespace Verge
set_option linter.unusedVariables false
set_option linter.unusedSimpArgs false

theorem cut_even (s : Bool) (m d : Nat) (h : d ≤ m.log2 + 2) : Ieee.Toward.even.cut s m d = if 2 ^ d < 2 * (m % 2 ^ d) ∨ 2 ^ d = 2 * (m % 2 ^ d) ∧ m / 2 ^ d % 2 = 1 then m / 2 ^ d + 1 else m / 2 ^ d := by
  unfold Ieee.Toward.cut
  rw [Nat.min_eq_left h, Nat.one_shiftLeft]
  dsimp only
  by_cases c1 : 2 ^ d < 2 * (m % 2 ^ d)
  · simp [c1]
  · by_cases c2 : 2 ^ d = 2 * (m % 2 ^ d)
    · by_cases c3 : m / 2 ^ d % 2 = 1
      · simp [c1, ← c2, c3]
      · simp [c1, ← c2, c3]
    · simp [c1, c2]

/-- The model's nearest word of a dyadic ratio of units. -/
theorem nearest_low (s : Bool) (m c : Nat) : Ieee.double.nearest s m (-1074 - (c : Nat)) = fword s (min (rngN m (2 ^ c)) 9218868437227405312) := by
  have hc0 := Nat.two_pow_pos c
  by_cases h0 : m = 0
  · subst h0
    unfold Ieee.Format.nearest
    rw [if_pos rfl]
    have : rngN 0 (2 ^ c) = 0 := by
      unfold rngN
      rw [Nat.zero_div]
      have : fl 0 = 0 := rfl
      rw [this, if_pos]
      rw [show FV 0 = 0 from rfl, show FV (0 + 1) = 1 from rfl]; omega
    rw [this]
    cases s <;> rfl
  unfold Ieee.Format.nearest
  rw [if_neg h0]
  show fword s (min (((max (-1074 - (c : Int) + (m.log2 : Nat) - (52 : Nat)) (-1074) - (-1074)).toNat * 4503599627370496 +
    Ieee.Toward.even.cut s (m <<< (-1074 - (c : Int) - max (-1074 - (c : Int) + (m.log2 : Nat) - (52 : Nat)) (-1074)).toNat) (max (-1074 - (c : Int) + (m.log2 : Nat) - (52 : Nat)) (-1074) - (-1074 - (c : Int))).toNat)) 9218868437227405312) = _
  congr 2
  have hl1 := Nat.log2_self_le h0
  have hl2 := Nat.lt_log2_self (n := m)
  unfold rngN
  by_cases hs : m.log2 ≤ 52 + c
  · rw [show max (-1074 - (c : Int) + (m.log2 : Nat) - (52 : Nat)) (-1074) = -1074 by omega]
    rw [show ((-1074 : Int) - (-1074)).toNat = 0 by omega, show (-1074 - (c : Int) - (-1074)).toNat = 0 by omega, show ((-1074 : Int) - (-1074 - (c : Int))).toNat = c by omega]
    rw [Nat.shiftLeft_zero, Nat.zero_mul, Nat.zero_add]
    have hq : m / 2 ^ c < 9007199254740992 := by
      rw [Nat.div_lt_iff_lt_mul hc0]
      refine Nat.lt_of_lt_of_le hl2 ?_
      rw [show (9007199254740992 : Nat) = 2 ^ 53 by rfl, ← Nat.pow_add]
      exact Nat.pow_le_pow_right (by omega) (by omega)
    have hfl : fl (m / 2 ^ c) = m / 2 ^ c := by
      have := fl_FV (m / 2 ^ c)
      rwa [FV_small hq] at this
    have hF1 : FV (m / 2 ^ c + 1) = m / 2 ^ c + 1 := by
      by_cases h : m / 2 ^ c + 1 < 9007199254740992
      · exact FV_small h
      · have e := FV_top 0
        rw [Nat.zero_mul, Nat.zero_add] at e
        rw [show m / 2 ^ c + 1 = 9007199254740992 by omega, e]
    rw [hfl, hF1, FV_small hq]
    have hd := Nat.div_add_mod m (2 ^ c)
    have hm := Nat.mod_lt m hc0
    have e1 : (m / 2 ^ c + (m / 2 ^ c + 1)) * 2 ^ c = 2 * (2 ^ c * (m / 2 ^ c)) + 2 ^ c := by grind
    rw [e1]
    by_cases hbig : c ≤ m.log2 + 2
    · rw [cut_even s m c hbig]
      by_cases c1 : 2 ^ c < 2 * (m % 2 ^ c)
      · rw [if_pos (.inl c1), if_neg (by omega), if_pos (by omega)]
      · by_cases c2 : 2 ^ c = 2 * (m % 2 ^ c)
        · by_cases c3 : m / 2 ^ c % 2 = 1
          · rw [if_pos (.inr ⟨c2, c3⟩), if_neg (by omega), if_neg (by omega), if_neg (by omega)]
          · rw [if_neg (by omega), if_neg (by omega), if_neg (by omega), if_pos (by omega)]
        · rw [if_neg (by omega), if_pos (by omega)]
    · have h1 : 2 ^ (m.log2 + 2) ≤ 2 ^ c := Nat.pow_le_pow_right (by omega) (by omega)
      have h2 : 2 ^ (m.log2 + 2) = 2 * 2 ^ (m.log2 + 1) := by rw [Nat.pow_succ]; omega
      have hz : m / 2 ^ c = 0 := Nat.div_eq_of_lt (by omega)
      have hzm : m % 2 ^ c = m := Nat.mod_eq_of_lt (by omega)
      have hcut : Ieee.Toward.even.cut s m c = 0 := by
        unfold Ieee.Toward.cut
        rw [Nat.min_eq_right (by omega), Nat.one_shiftLeft]
        have a1 : m / 2 ^ (m.log2 + 2) = 0 := Nat.div_eq_of_lt (by omega)
        have a2 : m % 2 ^ (m.log2 + 2) = m := Nat.mod_eq_of_lt (by omega)
        dsimp only
        rw [a1, a2]
        have a3 : ¬ 2 ^ (m.log2 + 2) < 2 * m := by omega
        have a4 : ¬ 2 ^ (m.log2 + 2) = 2 * m := by omega
        simp [a3, a4]
      rw [hcut, hz]
      rw [if_pos (by omega)]
  · obtain ⟨u, hu⟩ : ∃ u, m.log2 = 52 + c + u := ⟨m.log2 - 52 - c, by omega⟩
    rw [show max (-1074 - (c : Int) + (m.log2 : Nat) - (52 : Nat)) (-1074) = -1074 + (u : Int) by omega]
    rw [show (-1074 + (u : Int) - (-1074)).toNat = u by omega, show (-1074 - (c : Int) - (-1074 + (u : Int))).toNat = 0 by omega, show (-1074 + (u : Int) - (-1074 - (c : Int))).toNat = c + u by omega]
    rw [Nat.shiftLeft_zero, cut_even s m (c + u) (by omega)]
    have hq : m / 2 ^ c ≠ 0 := by
      have : 2 ^ c ≤ m := Nat.le_trans (Nat.pow_le_pow_right (by omega) (by omega)) hl1
      have := Nat.div_pos this hc0
      omega
    have hge : 4503599627370496 ≤ m / 2 ^ c := by
      rw [Nat.le_div_iff_mul_le hc0]
      refine Nat.le_trans ?_ hl1
      rw [show (4503599627370496 : Nat) = 2 ^ 52 by rfl, ← Nat.pow_add]
      exact Nat.pow_le_pow_right (by omega) (by omega)
    obtain ⟨k, t, hk, ht, t1, t2, hf⟩ := fl_parts hge
    have hlog : (m / 2 ^ c).log2 = 52 + u := by
      refine (Nat.log2_eq_iff hq).2 ⟨?_, ?_⟩
      · rw [Nat.le_div_iff_mul_le hc0, ← Nat.pow_add]
        exact Nat.le_trans (Nat.pow_le_pow_right (by omega) (by omega)) hl1
      · rw [Nat.div_lt_iff_lt_mul hc0, ← Nat.pow_add]
        exact Nat.lt_of_lt_of_le hl2 (Nat.pow_le_pow_right (by omega) (by omega))
    obtain rfl : k = u := by omega
    have ht' : m / 2 ^ (c + k) = t := by rw [ht, Nat.div_div_eq_div_mul, ← Nat.pow_add]
    rw [FV_succ, hf, FV_scale k t t1 t2, show (k * 4503599627370496 + t) / 4503599627370496 - 1 = k by omega, ht']
    have hd := Nat.div_add_mod m (2 ^ (c + k))
    have hm := Nat.mod_lt m (Nat.two_pow_pos (c + k))
    rw [ht'] at hd
    have e1 : (t * 2 ^ k + (t * 2 ^ k + 2 ^ k)) * 2 ^ c = 2 * (2 ^ (c + k) * t) + 2 ^ (c + k) := by rw [Nat.pow_add]; grind
    rw [e1]
    by_cases c1 : 2 ^ (c + k) < 2 * (m % 2 ^ (c + k))
    · rw [if_pos (.inl c1), if_neg (by omega), if_pos (by omega)]; omega
    · by_cases c2 : 2 ^ (c + k) = 2 * (m % 2 ^ (c + k))
      · by_cases c3 : t % 2 = 1
        · rw [if_pos (.inr ⟨c2, c3⟩), if_neg (by omega), if_neg (by omega), if_neg (by omega)]; omega
        · rw [if_neg (by omega), if_neg (by omega), if_neg (by omega), if_pos (by omega)]
      · rw [if_neg (by omega), if_pos (by omega)]

/-- A ratio may be cut by a common factor. -/
theorem rngN_cut (N D j : Nat) (hj : 0 < j) : rngN (N * j) (D * j) = rngN N D := by
  unfold rngN
  rw [Nat.mul_div_mul_right _ _ hj]
  obtain ⟨a, ha⟩ : ∃ a, FV (fl (N / D)) + FV (fl (N / D) + 1) = a := ⟨_, rfl⟩
  rw [ha]
  have e : a * (D * j) = a * D * j := by rw [Nat.mul_assoc]
  have e2 : 2 * (N * j) = 2 * N * j := by rw [Nat.mul_assoc]
  rw [e, e2]
  simp only [Nat.mul_lt_mul_right hj]
theorem nearest_any (s : Bool) (m : Nat) (p : Int) (j : Nat) (hj : 0 ≤ p + 1074 + (j : Int)) : Ieee.double.nearest s m p = fword s (min (rngN (m * 2 ^ (p + 1074 + (j : Int)).toNat) (2 ^ j)) 9218868437227405312) := by
  rcases ilt_or_ge (p + 1074) 0 with h | h
  · obtain ⟨c, hc⟩ : ∃ c : Nat, p = -1074 - (c : Int) := ⟨(-1074 - p).toNat, by omega⟩
    rw [hc, nearest_low]
    have e : (-1074 - (c : Int) + 1074 + (j : Int)).toNat = j - c := by omega
    have e2 : 2 ^ j = 2 ^ c * 2 ^ (j - c) := by rw [← Nat.pow_add]; congr 1; omega
    rw [e, e2, rngN_cut _ _ _ (Nat.two_pow_pos _)]
  · obtain ⟨c, hc⟩ : ∃ c : Nat, p = -1074 + (c : Int) := ⟨(p + 1074).toNat, by omega⟩
    rw [hc, nearest_eq]
    have e : (-1074 + (c : Int) + 1074 + (j : Int)).toNat = c + j := by omega
    have e2 : m * 2 ^ (c + j) = m * 2 ^ c * 2 ^ j := by rw [Nat.pow_add, Nat.mul_assoc]
    rw [e, e2]
    have := rngN_cut (m * 2 ^ c) 1 (2 ^ j) (Nat.two_pow_pos _)
    rw [Nat.one_mul] at this
    rw [this]

/-- Half of a finite pattern. -/
theorem div_two {x : Nat} (h : ffin x) : Ieee.double.div x 4611686018427387904 = some (fword (decide (9223372036854775808 ≤ x)) (min (rngN (FV (x % 9223372036854775808)) 2) 9218868437227405312)) := by
  obtain ⟨k, m, e, hm⟩ := read_num h.1 h.2
  unfold Ieee.Format.div
  have e2 : Ieee.double.read 4611686018427387904 = .number false 4503599627370496 (-51) := rfl
  rw [e, e2]
  have hl2 : Nat.log2 4503599627370496 = 52 := by decide
  show some (Ieee.double.nearest (decide (9223372036854775808 ≤ x) ^^ false) (2 * ((m <<< (54 + Nat.log2 4503599627370496 - m.log2)) / 4503599627370496) + ((m <<< (54 + Nat.log2 4503599627370496 - m.log2)) % 4503599627370496 != 0).toNat)
    (-1074 + (k : Int) - (-51) - ((54 + Nat.log2 4503599627370496 - m.log2 : Nat) : Int) - 1)) = _
  rw [hl2, Bool.xor_false]
  by_cases h0 : m = 0
  · subst h0
    rw [Nat.zero_mul] at hm
    rw [← hm]
    unfold Ieee.Format.nearest
    rw [if_pos (by simp)]
    have : rngN 0 2 = 0 := by decide
    rw [this]
    cases decide (9223372036854775808 ≤ x) <;> rfl
  have hm52 : m.log2 ≤ 52 := by
    have h1 : m < 2 ^ 53 := by
      have e' : Ieee.double.read x = .number (decide (9223372036854775808 ≤ x)) m (-1074 + (k : Nat)) := e
      unfold Ieee.Format.read at e'
      dsimp only at e'
      have hb : Ieee.double.binade = 4503599627370496 := rfl
      rw [hb] at e'
      split at e'
      · rename_i hr
        injection e' with _ e3 _
        omega
      · split at e'
        · injection e' with _ e3 _
          have := Nat.mod_lt (x % Ieee.double.signWeight) (show 0 < 4503599627370496 by omega)
          omega
        · split at e' <;> cases e'
    have := Nat.log2_self_le h0
    have := (Nat.pow_lt_pow_iff_right (a := 2) (by omega)).1 (Nat.lt_of_le_of_lt this h1)
    omega
  obtain ⟨g, hg⟩ : ∃ g, 54 + 52 - m.log2 = 52 + g := ⟨54 - m.log2, by omega⟩
  rw [hg, Nat.shiftLeft_eq]
  have p52 : m * 2 ^ (52 + g) = m * 2 ^ g * 4503599627370496 := by rw [Nat.pow_add, Nat.mul_comm (2 ^ 52), ← Nat.mul_assoc]
  rw [p52, Nat.mul_div_cancel _ (by omega), Nat.mul_mod_left]
  rw [nearest_any _ _ _ (g + 2) (by omega)]
  have e4 : (2 * (m * 2 ^ g) + ((0 : Nat) != 0).toNat) = m * 2 ^ (g + 1) := by rw [Nat.pow_succ]; simp; grind
  rw [e4, show (-1074 + (k : Int) - (-51) - ((52 + g : Nat) : Int) - 1 + 1074 + ((g + 2 : Nat) : Int)).toNat = k by omega]
  have e5 : m * 2 ^ (g + 1) * 2 ^ k = m * 2 ^ k * 2 ^ (g + 1) := by grind
  have e6 : 2 ^ (g + 2) = 2 * 2 ^ (g + 1) := by rw [show g + 2 = (g + 1) + 1 by omega, Nat.pow_succ, Nat.mul_comm]
  rw [e5, e6, rngN_cut _ _ _ (Nat.two_pow_pos _), hm]

/-- Twice rounded is once rounded, where the second halves. -/
theorem rngN_half (n : Nat) : rngN (FV (rngN n 1)) 2 = rngN n 2 := by
  by_cases hs : n < 9007199254740992
  · have h : rnn n = n := rnn_of (Fn_small (by omega))
    unfold rnn at h
    rw [h]
  · obtain ⟨k, t, hk, ht, t1, t2, hf⟩ := fl_parts (show 4503599627370496 ≤ n by omega)
    have hn0 : n ≠ 0 := by omega
    have hk1 : 1 ≤ k := by
      have : 53 ≤ n.log2 := (Nat.le_log2 hn0).2 (by omega)
      omega
    obtain ⟨j, rfl⟩ : ∃ j, k = j + 1 := ⟨k - 1, by omega⟩
    have hj := Nat.two_pow_pos j
    have hf2 : fl (n / 2) = j * 4503599627370496 + t := by
      have h1 := FV_fl_le n
      have h2 := lt_FV_fl n
      rw [FV_succ, hf, FV_scale _ t t1 t2, show ((j + 1) * 4503599627370496 + t) / 4503599627370496 - 1 = j + 1 by omega, Nat.pow_succ] at h2
      rw [hf, FV_scale _ t t1 t2, Nat.pow_succ] at h1
      refine fl_eq ?_ ?_
      · rw [FV_scale j t t1 t2, Nat.le_div_iff_mul_le (by omega), Nat.mul_assoc]; exact h1
      · rw [FV_succ, FV_scale j t t1 t2, show (j * 4503599627370496 + t) / 4503599627370496 - 1 = j by omega, Nat.div_lt_iff_lt_mul (by omega), Nat.add_mul, Nat.mul_assoc]; exact h2
    have hv1 : FV (fl n) = FV (fl (n / 2)) * 2 := by rw [hf, hf2, FV_scale _ t t1 t2, FV_scale _ t t1 t2, Nat.pow_succ, Nat.mul_assoc]
    have hv2 : FV (fl n + 1) = FV (fl (n / 2) + 1) * 2 := by
      rw [FV_succ, FV_succ, hv1, hf, hf2, show ((j + 1) * 4503599627370496 + t) / 4503599627370496 - 1 = j + 1 by omega, show (j * 4503599627370496 + t) / 4503599627370496 - 1 = j by omega, Nat.pow_succ]
      omega
    have e1 : rngN n 2 + 4503599627370496 = rngN n 1 := by
      rw [rngN_one]
      unfold rngN
      rw [hv1, hv2, hf, hf2]
      have e : FV (j * 4503599627370496 + t) * 2 + FV (j * 4503599627370496 + t + 1) * 2 = (FV (j * 4503599627370496 + t) + FV (j * 4503599627370496 + t + 1)) * 2 := by omega
      rw [e]
      split
      · omega
      · split
        · omega
        · split
          · split <;> omega
          · split <;> omega
    obtain ⟨r, hr⟩ : ∃ r, rngN n 2 = r := ⟨_, rfl⟩
    have hr1 : 4503599627370496 ≤ r := by
      have : fl (n / 2) ≤ r := by
        rw [← hr]; unfold rngN
        split
        · omega
        · split
          · omega
          · split <;> omega
      omega
    rw [hr] at e1 ⊢
    rw [← e1]
    -- twice a rung's number is the rung 2^52 further
    have hv : FV (r + 4503599627370496) = FV r * 2 := by
      obtain ⟨e, s, he, s1, s2⟩ : ∃ e s, r = e * 4503599627370496 + s ∧ 4503599627370496 ≤ s ∧ s < 9007199254740992 := ⟨r / 4503599627370496 - 1, r % 4503599627370496 + 4503599627370496, by omega, by omega, by omega⟩
      rw [he, FV_scale e s s1 s2, show e * 4503599627370496 + s + 4503599627370496 = (e + 1) * 4503599627370496 + s by omega, FV_scale (e + 1) s s1 s2, Nat.pow_succ, Nat.mul_assoc]
    rw [hv]
    have := rngN_cut (FV r) 1 2 (by omega)
    rw [Nat.one_mul] at this
    rw [this, rngN_FV]

theorem sum_half (a b : Nat) (ha : a % 2 = 0) (hb : b % 2 = 0) : rngN ((a / 2) + (b / 2)) 1 = rngN (a + b) 2 := by
  have := rngN_cut (a / 2 + b / 2) 1 2 (by omega)
  rw [Nat.one_mul, show (a / 2 + b / 2) * 2 = a + b by omega] at this
  exact this.symm
end Verge

/- Plain words on binary64: the middle of two numbers, rounded once, by the quick road and by halves. -/
namespace Verge
set_option linter.unusedVariables false
set_option linter.unusedSimpArgs false

/-- Half a number of units, to the nearest: its pattern. -/
def midz (P : Int) : Nat := fpat (decide (P < 0)) (min (rngN P.natAbs 2) 9218868437227405312)
theorem rngN_le {N D r : Nat} (hD : 0 < D) (h : N ≤ FV r * D) : rngN N D ≤ r := by
  rcases Nat.lt_or_ge (fl (N / D)) r with hl | hl
  · unfold rngN; split <;> (try split) <;> (try split) <;> omega
  · have h1 := fl_div_le N D hD
    have h2 := Nat.mul_le_mul_right D (FV_mono hl)
    have e : FV (fl (N / D)) * D = FV r * D := by omega
    have e2 := FV_inj (Nat.eq_of_mul_eq_mul_right hD e)
    have hN : N = FV r * D := by omega
    unfold rngN
    rw [e2, if_pos]
    · exact Nat.le_refl _
    · have := FV_lt (show r < r + 1 by omega)
      have := Nat.mul_lt_mul_of_pos_right this hD
      rw [Nat.add_mul]
      omega
theorem fword_lt (s : Bool) {r : Nat} (h : r < 9223372036854775808) : fword s r < 18446744073709551616 := by unfold fword; split <;> omega
theorem sdec (s : Bool) {r : Nat} (h : r < 9223372036854775808) : decide (9223372036854775808 ≤ fword s r) = s ∧ fword s r % 9223372036854775808 = r := by
  unfold fword; cases s
  · exact ⟨decide_eq_false (by simp; omega), by simp; omega⟩
  · exact ⟨decide_eq_true (by simp), by simp; omega⟩
theorem mid_quick {p q : Nat} (hp : ffin p) (hq : ffin q) (h : rngN (fv p + fv q).natAbs 1 < 9218868437227405312) :
    ∃ s h, Ieee.double.add p q = some s ∧ ffin s ∧ Ieee.double.div s 4611686018427387904 = some h ∧ h < 18446744073709551616 ∧ fz h = midz (fv p + fv q) := by
  have e := add_fin hp hq
  generalize hz0 : (decide (9223372036854775808 ≤ p) && decide (9223372036854775808 ≤ q)) = z0 at e
  clear hz0
  obtain ⟨P, hP⟩ : ∃ P, fv p + fv q = P := ⟨_, rfl⟩
  rw [hP] at e h ⊢
  rw [Nat.min_eq_left (by omega)] at e
  obtain ⟨sg, hsg⟩ : ∃ sg, (if P = 0 then z0 else decide (P < 0)) = sg := ⟨_, rfl⟩
  rw [hsg] at e
  have hf : ffin (fword sg (rngN P.natAbs 1)) := ffin_word h
  have hd := div_two hf
  obtain ⟨d1, d2⟩ := sdec sg (show rngN P.natAbs 1 < 9223372036854775808 by omega)
  rw [d1, d2, rngN_half] at hd
  have hle : rngN P.natAbs 2 ≤ rngN P.natAbs 1 := by
    have := rngN_le (N := FV (rngN P.natAbs 1)) (D := 2) (r := rngN P.natAbs 1) (by omega) (by omega)
    rwa [rngN_half] at this
  rw [Nat.min_eq_left (by omega)] at hd
  refine ⟨_, _, e, hf, hd, by unfold fword; split <;> omega, ?_⟩
  rw [fz_word (by omega)]
  unfold midz
  rw [Nat.min_eq_left (by omega)]
  by_cases h0 : P = 0
  · subst h0
    have : rngN (0 : Int).natAbs 2 = 0 := by
      have := rngN_le (N := (0 : Int).natAbs) (D := 2) (r := 0) (by omega) (by simp)
      omega
    rw [this]; rfl
  · rw [← hsg, if_neg h0]
theorem fl_le (n : Nat) : fl n ≤ n := by
  have h1 := FV_fl_le n
  have h2 : ∀ r, r ≤ FV r := by
    intro r
    induction r with
    | zero => omega
    | succ r ih => have := FV_lt (show r < r + 1 by omega); omega
  have := h2 (fl n)
  omega
theorem half_exact {a : Nat} (ha : Fn a) (h : 9007199254740992 ≤ a) : a % 2 = 0 ∧ Fn (a / 2) ∧ rngN a 2 = fl (a / 2) := by
  obtain ⟨m, k, e, hm, hk⟩ := Fn_parts ha
  have hk1 : k ≠ 0 := by rintro rfl; rw [Nat.pow_zero, Nat.mul_one] at e; omega
  obtain ⟨j, rfl⟩ : ∃ j, k = j + 1 := ⟨k - 1, by omega⟩
  have e2 : a = m * 2 ^ j * 2 := by rw [e, Nat.pow_succ, Nat.mul_assoc]
  have e3 : a / 2 = m * 2 ^ j := by omega
  have hF : Fn (a / 2) := Fn_of (by omega) e3
  refine ⟨by omega, hF, ?_⟩
  have h1 := rngN_cut (a / 2) 1 2 (by omega)
  rw [Nat.one_mul, show a / 2 * 2 = a by omega] at h1
  rw [h1]
  have : a / 2 = FV (fl (a / 2)) := hF.symm
  rw [this, rngN_FV, fl_FV]
theorem half_word {p a : Nat} (hp : ffin p) (ha : FV (p % 9223372036854775808) = a) (h : 9007199254740992 ≤ a) :
    ∃ r, Ieee.double.div p 4611686018427387904 = some (fword (decide (9223372036854775808 ≤ p)) r) ∧ r < 9218868437227405312 ∧ FV r = a / 2 ∧ a % 2 = 0 := by
  have hd := div_two hp
  rw [ha] at hd
  obtain ⟨h1, h2, h3⟩ := half_exact (ha ▸ Fn_FV _) h
  rw [h3] at hd
  have hle : fl (a / 2) ≤ p % 9223372036854775808 := by
    have := fl_mono (show a / 2 ≤ a by omega)
    rw [← ha, fl_FV] at this
    rw [← ha]; exact this
  have := hp.2
  rw [Nat.min_eq_left (by omega)] at hd
  exact ⟨_, hd, by omega, h2, h1⟩
theorem over_big {n K : Nat} (hK : K = 2045) (h : ¬ rngN n 1 < 9218868437227405312) : 2 * FV 9218868437227405311 + 2 ^ K ≤ 2 * n := by
  have hs := FV_succ 9218868437227405311
  have e : 9218868437227405311 / 4503599627370496 - 1 = K := by rw [hK]
  rw [e] at hs
  have hs : FV 9218868437227405312 = FV 9218868437227405311 + 2 ^ K := hs
  generalize 2 ^ K = U at *
  rcases rngN_cases n with hc | hc
  · have : 9218868437227405312 ≤ fl n := by omega
    have h1 := FV_mono this
    have h2 := FV_fl_le n
    omega
  · by_cases hf : 9218868437227405312 ≤ fl n
    · have h1 := FV_mono hf
      have h2 := FV_fl_le n
      omega
    · have hf' : fl n = 9218868437227405311 := by omega
      rw [rngN_one, hf'] at hc
      split at hc
      · omega
      · rename_i hh
        omega
theorem mid_slow {p q : Nat} (hp : ffin p) (hq : ffin q) (h : ¬ rngN (fv p + fv q).natAbs 1 < 9218868437227405312) :
    ∃ s a b, Ieee.double.add p q = some s ∧ s < 18446744073709551616 ∧ s % 9223372036854775808 = 9218868437227405312 ∧ Ieee.double.div p 4611686018427387904 = some a ∧ Ieee.double.div q 4611686018427387904 = some b ∧ Ieee.double.add a b = some (midz (fv p + fv q)) := by
  obtain ⟨K, hK⟩ : ∃ K, K = 2045 := ⟨_, rfl⟩
  have hov := over_big hK h
  have hU : 18014398509481984 ≤ 2 ^ K := by
    have : 2 ^ 54 ≤ 2 ^ K := Nat.pow_le_pow_right (by omega) (by omega)
    exact this
  generalize 2 ^ K = U at *
  have e := add_fin hp hq
  generalize (decide (9223372036854775808 ≤ p) && decide (9223372036854775808 ≤ q)) = z0 at e
  rw [Nat.min_eq_right (show 9218868437227405312 ≤ rngN (fv p + fv q).natAbs 1 by omega)] at e
  have ha := fv_abs p
  have hb := fv_abs q
  have la : FV (p % 9223372036854775808) ≤ FV 9218868437227405311 := FV_mono (by have := hp.2; omega)
  have lb : FV (q % 9223372036854775808) ≤ FV 9218868437227405311 := FV_mono (by have := hq.2; omega)
  generalize FV 9218868437227405311 = Mx at *
  obtain ⟨a, hae⟩ : ∃ a, FV (p % 9223372036854775808) = a := ⟨_, rfl⟩
  obtain ⟨b, hbe⟩ : ∃ b, FV (q % 9223372036854775808) = b := ⟨_, rfl⟩
  rw [hae] at ha la
  rw [hbe] at hb lb
  have sa : fv p = if decide (9223372036854775808 ≤ p) = true then -(a : Int) else a := by unfold fv; rw [hae]; simp
  have sb : fv q = if decide (9223372036854775808 ≤ q) = true then -(b : Int) else b := by unfold fv; rw [hbe]; simp
  have ka : 9007199254740992 ≤ a := by omega
  have kb : 9007199254740992 ≤ b := by omega
  obtain ⟨r, hr1, hr2, hr3, hr4⟩ := half_word hp hae ka
  obtain ⟨t, ht1, ht2, ht3, ht4⟩ := half_word hq hbe kb
  generalize decide (9223372036854775808 ≤ p) = sp at *
  generalize decide (9223372036854775808 ≤ q) = sq at *
  have hss : sp = sq := by
    cases sp <;> cases sq <;> simp at sa sb ⊢ <;> omega
  subst hss
  refine ⟨_, _, _, e, ?_, ?_, hr1, ht1, ?_⟩
  · exact fword_lt _ (by omega)
  · exact (sdec _ (by omega)).2
  · have e2 := add_fin (ffin_word (s := sp) hr2) (ffin_word (s := sp) ht2)
    rw [fv_word (by omega), fv_word (by omega), hr3, ht3] at e2
    rw [e2]
    generalize (decide (9223372036854775808 ≤ fword sp r) && decide (9223372036854775808 ≤ fword sp t)) = z1
    have hab : ∀ P : Int, (P = (if sp = true then -((a / 2 : Nat) : Int) else ((a / 2 : Nat) : Int)) + (if sp = true then -((b / 2 : Nat) : Int) else ((b / 2 : Nat) : Int))) → P.natAbs = a / 2 + b / 2 ∧ ¬ P = 0 ∧ (P < 0 ↔ sp = true) := by
      intro P hP; cases sp <;> simp at hP ⊢ <;> omega
    obtain ⟨h1, h2, h3⟩ := hab _ rfl
    rw [if_neg h2, h1, sum_half a b hr4 ht4]
    have hPa : (fv p + fv q).natAbs = a + b ∧ (fv p + fv q < 0 ↔ sp = true) := by
      rw [sa, sb]; cases sp <;> simp <;> omega
    unfold midz
    rw [hPa.1]
    have hd : decide ((if sp = true then -((a / 2 : Nat) : Int) else ((a / 2 : Nat) : Int)) + (if sp = true then -((b / 2 : Nat) : Int) else ((b / 2 : Nat) : Int)) < 0) = decide (fv p + fv q < 0) := decide_eq_decide.2 (h3.trans hPa.2.symm)
    rw [hd]
    have hpos : min (rngN (a + b) 2) 9218868437227405312 ≠ 0 := by
      have h5 : 0 < rngN (a + b) 2 := by
        rw [← sum_half a b hr4 ht4]
        have := rngN_mono (show 1 ≤ a / 2 + b / 2 by omega)
        have e1 : rngN 1 1 = 1 := by decide
        omega
      omega
    unfold fpat fword
    rw [if_neg hpos]
/-- The document's road. -/
theorem rng_near {s : Bool} (N D : Nat) : rng 0 s N D = min (rngN N D) 9218868437227405312 := by
  unfold rng; rw [if_neg (by omega)]
theorem midz_lt (P : Int) : midz P < 18446744073709551616 := by
  unfold midz fpat; split
  · omega
  · split <;> omega
end Verge
