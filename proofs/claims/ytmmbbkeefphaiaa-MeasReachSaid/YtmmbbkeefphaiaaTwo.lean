/- Plain words on rounding to the nearest among whole numbers of 53 bits: what a sum lacks is exact. -/
import Derived.Test.YtmmbbkeefphaiaaRnd
namespace Verge
set_option linter.unusedVariables false
set_option linter.unusedSimpArgs false

/-- A natural that is a number of the format (of any size). -/
def Fn (n : Nat) : Prop := FV (fl n) = n
theorem Fn_FV (r : Nat) : Fn (FV r) := by unfold Fn; rw [fl_FV]
theorem Fn_of {m k n : Nat} (hm : m ≤ 9007199254740992) (h : n = m * 2 ^ k) : Fn n := by
  unfold Fn
  have hk := Nat.two_pow_pos k
  rcases Nat.eq_or_lt_of_le hm with e | hm
  · rw [h, e, ← FV_top k, fl_FV]
  by_cases hs : n < 4503599627370496
  · have : fl n = n := by unfold fl; rw [if_pos hs]
    rw [this, FV_small (by omega)]
  · obtain ⟨u, t, hu, ht, t1, t2, hf⟩ := fl_parts (Nat.le_of_not_lt hs)
    rw [hf, FV_scale u t t1 t2]
    have hlt : n < 2 ^ (k + 53) := by
      rw [h, Nat.pow_add, Nat.mul_comm]
      exact Nat.mul_lt_mul_of_pos_left (by omega) hk
    have h1 := Nat.log2_self_le (n := n) (by omega)
    have h2 := (Nat.pow_lt_pow_iff_right (a := 2) (by omega)).1 (Nat.lt_of_le_of_lt h1 hlt)
    have hd : 2 ^ u ∣ n := by
      rw [h]
      exact Nat.dvd_trans (Nat.pow_dvd_pow 2 (show u ≤ k by omega)) (Nat.dvd_mul_left _ _)
    rw [ht]
    exact Nat.div_mul_cancel hd
theorem Fn_small {n : Nat} (h : n ≤ 9007199254740992) : Fn n := Fn_of (k := 0) h (by simp)
theorem Fn_parts {n : Nat} (h : Fn n) : ∃ m k, n = m * 2 ^ k ∧ m < 9007199254740992 ∧ (k = 0 ∨ 4503599627370496 ≤ m) := by
  unfold Fn at h
  by_cases hs : n < 4503599627370496
  · exact ⟨n, 0, by simp, by omega, .inl rfl⟩
  · obtain ⟨u, t, hu, ht, t1, t2, hf⟩ := fl_parts (Nat.le_of_not_lt hs)
    rw [hf, FV_scale u t t1 t2] at h
    exact ⟨t, u, h.symm, t2, .inr t1⟩
/-- The quantum of a lesser number goes up in a greater one. -/
theorem Fn_dvd {n : Nat} (h : Fn n) {j : Nat} (hn : 4503599627370496 * 2 ^ j ≤ n) : 2 ^ j ∣ n := by
  obtain ⟨m, k, e, hm, _⟩ := Fn_parts h
  have hk := Nat.two_pow_pos k
  have h1 : 4503599627370496 * 2 ^ j < 9007199254740992 * 2 ^ k := by
    rw [e] at hn
    exact Nat.lt_of_le_of_lt hn (Nat.mul_lt_mul_of_pos_right hm hk)
  have h2 : 2 ^ j < 2 ^ (k + 1) := by rw [Nat.pow_succ]; omega
  have h3 := (Nat.pow_lt_pow_iff_right (a := 2) (by omega)).1 h2
  rw [e]
  exact Nat.dvd_trans (Nat.pow_dvd_pow 2 (show j ≤ k by omega)) (Nat.dvd_mul_left _ _)

/-- To the nearest, on naturals. -/
def rnn (n : Nat) : Nat := FV (rngN n 1)
theorem rngN_one (n : Nat) : rngN n 1 = if 2 * n < FV (fl n) + FV (fl n + 1) then fl n else if FV (fl n) + FV (fl n + 1) < 2 * n then fl n + 1 else if fl n % 2 = 0 then fl n else fl n + 1 := by
  unfold rngN; rw [Nat.div_one, Nat.mul_one]
theorem rngN_cases (n : Nat) : rngN n 1 = fl n ∨ rngN n 1 = fl n + 1 := by
  rw [rngN_one]; split
  · exact .inl rfl
  · split
    · exact .inr rfl
    · split
      · exact .inl rfl
      · exact .inr rfl
theorem rngN_FV (r : Nat) : rngN (FV r) 1 = r := by
  have := FV_lt (show r < r + 1 by omega)
  rw [rngN_one, fl_FV, if_pos (by omega)]
theorem rnn_Fn (n : Nat) : Fn (rnn n) := Fn_FV _
theorem rnn_of {n : Nat} (h : Fn n) : rnn n = n := by
  unfold Fn at h
  unfold rnn
  have e := rngN_FV (fl n)
  rw [h] at e
  rw [e, h]
theorem rngN_mono {p q : Nat} (h : p ≤ q) : rngN p 1 ≤ rngN q 1 := by
  have hf := fl_mono h
  rcases Nat.eq_or_lt_of_le hf with e | e
  · rw [rngN_one, rngN_one, e]
    by_cases c1 : 2 * p < FV (fl q) + FV (fl q + 1)
    · rw [if_pos c1]; split <;> (try split) <;> (try split) <;> omega
    · rw [if_neg c1, if_neg (show ¬ 2 * q < FV (fl q) + FV (fl q + 1) by omega)]
      by_cases c2 : FV (fl q) + FV (fl q + 1) < 2 * p
      · rw [if_pos c2, if_pos (by omega)]; omega
      · rw [if_neg c2]
        split <;> (try split) <;> (try split) <;> omega
  · have h1 := rngN_cases p
    have h2 := rngN_cases q
    omega
theorem rnn_mono {p q : Nat} (h : p ≤ q) : rnn p ≤ rnn q := FV_mono (rngN_mono h)
theorem rnn_zero : rnn 0 = 0 := rnn_of (Fn_small (by omega))
/-- Nothing is nearer. -/
theorem rnn_near (n g : Nat) (hg : Fn g) : (rnn n - n : Int).natAbs ≤ (g - n : Int).natAbs := by
  have h1 := FV_fl_le n
  have h2 := lt_FV_fl n
  have h3 : g ≤ n → g ≤ FV (fl n) := by
    intro h
    unfold Fn at hg
    have := fl_mono h
    have := FV_mono this
    omega
  have h4 : n < g → FV (fl n + 1) ≤ g := by
    intro h
    unfold Fn at hg
    have : fl n < fl g := by
      rcases Nat.lt_or_ge (fl n) (fl g) with h | h
      · exact h
      · have := FV_mono h; omega
    have := FV_mono (show fl n + 1 ≤ fl g from this)
    omega
  unfold rnn
  rw [rngN_one]
  split
  · rename_i c; rcases Nat.lt_or_ge n g with h | h
    · have := h4 h; omega
    · have := h3 h; omega
  · split
    · rename_i c1 c; rcases Nat.lt_or_ge n g with h | h
      · have := h4 h; omega
      · have := h3 h; omega
    · split
      · rename_i c1 c2 c; rcases Nat.lt_or_ge n g with h | h
        · have := h4 h; omega
        · have := h3 h; omega
      · rename_i c1 c2 c; rcases Nat.lt_or_ge n g with h | h
        · have := h4 h; omega
        · have := h3 h; omega
theorem rnn_gap {n k : Nat} (h : n < 9007199254740992 * 2 ^ (k + 1)) : (rnn n - n : Int).natAbs ≤ 2 ^ k := by
  have h1 := FV_fl_le n
  have h2 := lt_FV_fl n
  have hk := Nat.two_pow_pos k
  have hg : FV (fl n + 1) ≤ FV (fl n) + 2 * 2 ^ k := by
    rw [FV_succ]
    by_cases hs : n < 4503599627370496
    · have : fl n = n := by unfold fl; rw [if_pos hs]
      rw [this, Nat.div_eq_of_lt hs]
      simp
      omega
    · obtain ⟨u, t, hu, ht, t1, t2, hf⟩ := fl_parts (Nat.le_of_not_lt hs)
      rw [hf, show (u * 4503599627370496 + t) / 4503599627370496 - 1 = u by omega]
      have h1 := Nat.log2_self_le (n := n) (by omega)
      have h3 : n < 2 ^ (k + 54) := by
        have : 2 ^ (k + 54) = 9007199254740992 * 2 ^ (k + 1) := by
          rw [show (9007199254740992 : Nat) = 2 ^ 53 by rfl, ← Nat.pow_add]; congr 1; omega
        omega
      have h4 := (Nat.pow_lt_pow_iff_right (a := 2) (by omega)).1 (Nat.lt_of_le_of_lt h1 h3)
      have h5 : 2 ^ u ≤ 2 ^ (k + 1) := Nat.pow_le_pow_right (by omega) (by omega)
      rw [Nat.pow_succ] at h5
      omega
  unfold rnn
  rw [rngN_one]
  split
  · omega
  · split
    · omega
    · split
      · omega
      · omega
theorem rnn_dvd {n j : Nat} (h : 2 ^ j ∣ n) : 2 ^ j ∣ rnn n := by
  by_cases hs : n < 4503599627370496
  · rw [rnn_of (Fn_small (by omega))]; exact h
  · obtain ⟨u, t, hu, ht, t1, t2, hf⟩ := fl_parts (Nat.le_of_not_lt hs)
    rcases Nat.le_total u j with huj | huj
    · have hF : Fn n := by
        unfold Fn
        rw [hf, FV_scale u t t1 t2, ht]
        exact Nat.div_mul_cancel (Nat.dvd_trans (Nat.pow_dvd_pow 2 huj) h)
      rw [rnn_of hF]; exact h
    · have hd : 2 ^ j ∣ 2 ^ u := Nat.pow_dvd_pow 2 huj
      unfold rnn
      rcases rngN_cases n with e | e
      · rw [e, hf, FV_scale u t t1 t2]
        exact Nat.dvd_trans hd (Nat.dvd_mul_left _ _)
      · rw [e, FV_succ, hf, FV_scale u t t1 t2, show (u * 4503599627370496 + t) / 4503599627370496 - 1 = u by omega]
        exact Nat.dvd_add (Nat.dvd_trans hd (Nat.dvd_mul_left _ _)) hd

theorem ilt_or_ge (a b : Int) : a < b ∨ b ≤ a := by omega
/-- On whole numbers. -/
def F (z : Int) : Prop := Fn z.natAbs
def rn (z : Int) : Int := if z < 0 then -((rnn z.natAbs : Nat) : Int) else ((rnn z.natAbs : Nat) : Int)
theorem F_neg {z : Int} (h : F z) : F (-z) := by unfold F at *; rwa [Int.natAbs_neg]
theorem F_nat {n : Nat} (h : Fn n) : F (n : Int) := by unfold F; simpa using h
theorem rn_nat (n : Nat) : rn (n : Int) = (rnn n : Nat) := by unfold rn; rw [if_neg (by omega), Int.natAbs_natCast]
theorem rn_neg (z : Int) : rn (-z) = -rn z := by
  unfold rn
  rw [Int.natAbs_neg]
  by_cases h0 : z = 0
  · subst h0; simp [rnn_zero]
  · by_cases h : z < 0
    · rw [if_neg (by omega), if_pos h]; omega
    · rw [if_pos (by omega), if_neg h]
theorem rn_F (z : Int) : F (rn z) := by
  unfold rn F
  split <;> simp [rnn_Fn]
theorem rn_of {z : Int} (h : F z) : rn z = z := by
  unfold rn
  rw [rnn_of h]
  split <;> omega
theorem rn_mono {y z : Int} (h : y ≤ z) : rn y ≤ rn z := by
  unfold rn
  by_cases hy : y < 0
  · rw [if_pos hy]
    by_cases hz : z < 0
    · rw [if_pos hz]
      have := rnn_mono (show z.natAbs ≤ y.natAbs by omega)
      omega
    · rw [if_neg hz]; omega
  · rw [if_neg hy, if_neg (by omega)]
    have := rnn_mono (show y.natAbs ≤ z.natAbs by omega)
    omega
theorem rn_abs (z : Int) : (rn z).natAbs = rnn z.natAbs := by unfold rn; split <;> omega
theorem rn_near0 (z : Int) (hz : 0 ≤ z) (g : Int) (hg : F g) : (rn z - z).natAbs ≤ (g - z).natAbs := by
  have e : rn z = (rnn z.natAbs : Nat) := by unfold rn; rw [if_neg (by omega)]
  rw [e]
  by_cases h : 0 ≤ g
  · have := rnn_near z.natAbs g.natAbs hg
    omega
  · have := rnn_near z.natAbs 0 (Fn_small (by omega))
    omega
theorem rn_near (z g : Int) (hg : F g) : (rn z - z).natAbs ≤ (g - z).natAbs := by
  by_cases hz : 0 ≤ z
  · exact rn_near0 z hz g hg
  · have := rn_near0 (-z) (by omega) (-g) (F_neg hg)
    rw [rn_neg] at this
    omega
theorem rn_gap {z : Int} {k : Nat} (h : z.natAbs < 9007199254740992 * 2 ^ (k + 1)) : (rn z - z).natAbs ≤ 2 ^ k := by
  have := rnn_gap h
  unfold rn
  split <;> omega
theorem F_dvd {z : Int} (h : F z) {j : Nat} (hn : 4503599627370496 * 2 ^ j ≤ z.natAbs) : ((2 ^ j : Nat) : Int) ∣ z :=
  Int.ofNat_dvd_left.2 (Fn_dvd h hn)
theorem rn_dvd {z : Int} {j : Nat} (h : ((2 ^ j : Nat) : Int) ∣ z) : ((2 ^ j : Nat) : Int) ∣ rn z := by
  have := rnn_dvd (Int.ofNat_dvd_left.1 h)
  refine Int.ofNat_dvd_left.2 ?_
  rw [rn_abs]
  exact this
theorem F_of_dvd {z : Int} {j : Nat} (h : ((2 ^ j : Nat) : Int) ∣ z) (hm : z.natAbs ≤ 9007199254740992 * 2 ^ j) : F z := by
  obtain ⟨c, hc⟩ := Int.ofNat_dvd_left.1 h
  have hj := Nat.two_pow_pos j
  rw [Nat.mul_comm] at hc
  refine Fn_of (m := c) (k := j) ?_ hc
  rw [hc] at hm
  exact Nat.le_of_mul_le_mul_right hm hj
theorem F_zero : F 0 := Fn_small (by simp)

/-- A number's quantum: it is a multiple of 2^j, below 2^53 of them, and so is every number of the format that is not less. -/
theorem F_quantum {b : Int} (h : F b) : ∃ j : Nat, ((2 ^ j : Nat) : Int) ∣ b ∧ b.natAbs < 9007199254740992 * 2 ^ j ∧ ∀ a : Int, F a → b.natAbs ≤ a.natAbs → ((2 ^ j : Nat) : Int) ∣ a := by
  obtain ⟨m, k, e, hm, hc⟩ := Fn_parts h
  have hk := Nat.two_pow_pos k
  refine ⟨k, Int.ofNat_dvd_left.2 (by rw [e]; exact Nat.dvd_mul_left _ _), by rw [e]; exact Nat.mul_lt_mul_of_pos_right hm hk, fun a ha hab => ?_⟩
  rcases hc with hc | hc
  · subst hc; simp
  · refine F_dvd ha ?_
    have : 4503599627370496 * 2 ^ k ≤ m * 2 ^ k := Nat.mul_le_mul_right _ hc
    omega

/-- What a sum lacks is a number of the format. -/
theorem err_F {a b : Int} (ha : F a) (hb : F b) (h : b.natAbs ≤ a.natAbs) : F (a + b - rn (a + b)) := by
  obtain ⟨j, h1, h2, h3⟩ := F_quantum hb
  have h4 := h3 a ha h
  have h5 := Int.dvd_add h4 h1
  have h6 := rn_dvd h5
  have h7 := Int.dvd_sub h5 h6
  refine F_of_dvd h7 ?_
  have := rn_near (a + b) a ha
  omega
/-- Sterbenz. -/
theorem sub_F {x y : Int} (hx : F x) (hy : F y) (h0 : 0 ≤ y) (h1 : y ≤ x) (h2 : x ≤ 2 * y) : F (x - y) := by
  obtain ⟨j, d1, d2, d3⟩ := F_quantum hy
  have d4 := d3 x hx (by omega)
  exact F_of_dvd (Int.dvd_sub d4 d1) (by omega)
theorem F_double {a : Int} (h : F a) : F (2 * a) := by
  obtain ⟨m, k, e, hm, _⟩ := Fn_parts h
  refine Fn_of (m := m) (k := k + 1) (by omega) ?_
  rw [Int.natAbs_mul, e, Nat.pow_succ]
  show 2 * (m * 2 ^ k) = _
  rw [← Nat.mul_assoc, Nat.mul_comm 2 m, Nat.mul_assoc, Nat.mul_comm 2]
/-- The first step of a quick sum is exact. -/
theorem fast0 {a b : Int} (ha : F a) (hb : F b) (h : b.natAbs ≤ a.natAbs) (h0 : 0 ≤ a) : F (rn (a + b) - a) := by
  rcases ilt_or_ge b 0 with hn | hp
  · rcases ilt_or_ge (2 * -b) a with hc | hc
    · have hs1 : rn (a + b) ≤ a := by
        have := rn_mono (show a + b ≤ a by omega)
        rwa [rn_of ha] at this
      have hs2 : a ≤ 2 * rn (a + b) := by
        obtain ⟨m, k, e, hm, hk⟩ := Fn_parts ha
        rcases Nat.eq_zero_or_pos k with h00 | hpos
        · subst h00
          have hF : F (a + b) := by
            refine Fn_small ?_
            simp at e
            omega
          rw [rn_of hF]; omega
        · have e2 : a.natAbs = 2 * (m * 2 ^ (k - 1)) := by
            rw [e, show k = (k - 1) + 1 by omega, Nat.pow_succ, Nat.add_sub_cancel]
            rw [← Nat.mul_assoc, Nat.mul_comm]
          have hF : F ((m * 2 ^ (k - 1) : Nat) : Int) := F_nat (Fn_of (by omega) rfl)
          have := rn_mono (show ((m * 2 ^ (k - 1) : Nat) : Int) ≤ a + b by omega)
          rw [rn_of hF] at this
          omega
      have := sub_F ha (rn_F (a + b)) (by omega) hs1 hs2
      have := F_neg this
      rwa [Int.neg_sub] at this
    · have hF : F (a + b) := by
        have := sub_F ha (F_neg hb) (by omega) (by omega) hc
        rwa [Int.sub_neg] at this
      rw [rn_of hF]
      rwa [show a + b - a = b by omega]
  · have hs1 : a ≤ rn (a + b) := by
      have := rn_mono (show a ≤ a + b by omega)
      rwa [rn_of ha] at this
    have hs2 : rn (a + b) ≤ 2 * a := by
      have := rn_mono (show a + b ≤ 2 * a by omega)
      rwa [rn_of (F_double ha)] at this
    obtain ⟨j, d1, d2, d3⟩ := F_quantum ha
    have d4 := d3 _ (rn_F (a + b)) (by omega)
    exact F_of_dvd (Int.dvd_sub d4 d1) (by omega)
theorem fast_F {a b : Int} (ha : F a) (hb : F b) (h : b.natAbs ≤ a.natAbs) : F (rn (a + b) - a) := by
  rcases ilt_or_ge a 0 with h0 | h0
  · have := fast0 (F_neg ha) (F_neg hb) (by omega) (by omega)
    rw [show -a + -b = -(a + b) by omega, rn_neg] at this
    have := F_neg this
    rwa [show -(-rn (a + b) - -a) = rn (a + b) - a by omega] at this
  · exact fast0 ha hb h h0

/-- The middle step where the first was the lesser. -/
theorem far0 {x y : Int} (hx : F x) (hy : F y) (h : x.natAbs < y.natAbs) (h0 : 0 ≤ y) : F (y - rn (rn (x + y) - x)) := by
  obtain ⟨m, k, e, hm, hc⟩ := Fn_parts hy
  have hk := Nat.two_pow_pos k
  have hlt : (x + y).natAbs < 9007199254740992 * 2 ^ (k + 1) := by
    have : m * 2 ^ k < 9007199254740992 * 2 ^ k := Nat.mul_lt_mul_of_pos_right hm hk
    rw [Nat.pow_succ]
    omega
  have hg := rn_gap hlt
  obtain ⟨s, hs⟩ : ∃ s, rn (x + y) = s := ⟨_, rfl⟩
  rw [hs] at hg ⊢
  rcases Nat.eq_zero_or_pos k with h00 | hpos
  · subst h00
    have hF : F (s - x) := by
      refine Fn_small ?_
      simp at e hg
      omega
    rw [rn_of hF]
    have := err_F hy hx (by omega)
    rw [Int.add_comm y x, hs] at this
    rwa [show y - (s - x) = x + y - s by omega]
  · have hm2 : 4503599627370496 ≤ m := by omega
    have f1 : F (((m - 1) * 2 ^ k : Nat) : Int) := F_nat (Fn_of (by omega) rfl)
    have f2 : F (((m + 1) * 2 ^ k : Nat) : Int) := F_nat (Fn_of (by omega) rfl)
    have e1 : (m - 1) * 2 ^ k + 2 ^ k = m * 2 ^ k := by rw [← Nat.succ_mul, Nat.succ_eq_add_one, Nat.sub_add_cancel (by omega)]
    have e2 : (m + 1) * 2 ^ k = m * 2 ^ k + 2 ^ k := Nat.succ_mul m (2 ^ k)
    have l1 := rn_mono (show (((m - 1) * 2 ^ k : Nat) : Int) ≤ s - x by omega)
    have l2 := rn_mono (show s - x ≤ (((m + 1) * 2 ^ k : Nat) : Int) by omega)
    rw [rn_of f1] at l1
    rw [rn_of f2] at l2
    obtain ⟨t, ht⟩ : ∃ t, rn (s - x) = t := ⟨_, rfl⟩
    have hFt : F t := ht ▸ rn_F _
    rw [ht] at l1 l2 ⊢
    have p1 : 2 ^ k = 2 * 2 ^ (k - 1) := by rw [show k = (k - 1) + 1 by omega, Nat.pow_succ, Nat.add_sub_cancel, Nat.mul_comm]
    have hmk : 4503599627370496 * 2 ^ k ≤ m * 2 ^ k := Nat.mul_le_mul_right _ hm2
    have d1 : ((2 ^ (k - 1) : Nat) : Int) ∣ t := F_dvd hFt (by omega)
    have d2 : ((2 ^ (k - 1) : Nat) : Int) ∣ y := F_dvd hy (by omega)
    exact F_of_dvd (Int.dvd_sub d2 d1) (by omega)
theorem far_F {x y : Int} (hx : F x) (hy : F y) (h : x.natAbs < y.natAbs) : F (y - rn (rn (x + y) - x)) := by
  rcases ilt_or_ge y 0 with h0 | h0
  · have := far0 (F_neg hx) (F_neg hy) (by omega) (by omega)
    rw [show -x + -y = -(x + y) by omega, rn_neg, show -rn (x + y) - -x = -(rn (x + y) - x) by omega, rn_neg] at this
    have := F_neg this
    rwa [show -(-y - -rn (rn (x + y) - x)) = y - rn (rn (x + y) - x) by omega] at this
  · exact far0 hx hy h h0

/-- What the quick road of a sum reckons is just what the sum lacks. -/
theorem two_sum {x y s t p q : Int} (hx : F x) (hy : F y) (hs : s = rn (x + y)) (ht : t = rn (s - x)) (hp : p = rn (x - rn (s - t))) (hq : q = rn (y - t)) :
    rn (p + q) = x + y - s := by
  have hsF : F s := hs ▸ rn_F _
  rcases Nat.lt_or_ge x.natAbs y.natAbs with h | h
  · rcases Nat.lt_or_ge s.natAbs x.natAbs with h2 | h2
    · -- the sum cancels, and is exact
      have h3 : (x + y).natAbs ≤ x.natAbs := by
        rcases Nat.lt_or_ge x.natAbs (x + y).natAbs with h4 | h4
        · have := rnn_mono (show x.natAbs ≤ (x + y).natAbs by omega)
          rw [rnn_of hx, ← rn_abs, ← hs] at this
          omega
        · exact h4
      have hF : F (x + y) := by
        rcases ilt_or_ge y 0 with h0 | h0
        · have := F_neg (sub_F (F_neg hy) hx (by omega) (by omega) (by omega))
          rwa [show -(-y - x) = x + y by omega] at this
        · have := sub_F hy (F_neg hx) (by omega) (by omega) (by omega)
          rwa [show y - -x = x + y by omega] at this
      rw [rn_of hF] at hs
      have e1 : t = y := by rw [ht, show s - x = y by omega, rn_of hy]
      have e2 : p = 0 := by rw [hp, e1, show s - y = x by omega, rn_of hx, Int.sub_self]; exact rn_of F_zero
      have e3 : q = 0 := by rw [hq, e1, Int.sub_self]; exact rn_of F_zero
      rw [e2, e3]
      show rn 0 = _
      rw [rn_of F_zero]; omega
    · have f1 := fast_F hsF (F_neg hx) (by omega)
      rw [show s + -x = s - x by omega, ← ht] at f1
      have f2 := err_F hsF (F_neg hx) (by omega)
      rw [show s + -x = s - x by omega, ← ht] at f2
      have f3 := F_neg f1
      rw [show -(t - s) = s - t by omega] at f3
      have e1 : p = x - (s - t) := by
        rw [hp, rn_of f3]
        have := F_neg f2
        rw [show -(s - x - t) = x - (s - t) by omega] at this
        exact rn_of this
      have f4 := far_F hx hy h
      rw [← hs, ← ht] at f4
      rw [rn_of f4] at hq
      have f5 := err_F hy hx (by omega)
      rw [Int.add_comm y x, ← hs] at f5
      rw [e1, hq, show x - (s - t) + (y - t) = x + y - s by omega, rn_of f5]
  · have f1 := fast_F hx hy h
    rw [← hs] at f1
    rw [rn_of f1] at ht
    have e1 : p = 0 := by rw [hp, ht, show s - (s - x) = x by omega, rn_of hx, Int.sub_self]; exact rn_of F_zero
    have f2 := err_F hx hy h
    rw [← hs] at f2
    have e2 : q = x + y - s := by rw [hq, ht, show y - (s - x) = x + y - s by omega, rn_of f2]
    rw [e1, e2, Int.zero_add, rn_of f2]
end Verge
