/- Plain words on binary64: a whole number of units, rounded up; the next pattern above. -/
import Derived.Test.YtmmbbkeefphaiaaSum
namespace Verge
set_option linter.unusedVariables false
set_option linter.unusedSimpArgs false

/-- A whole number of units, rounded up: its pattern. -/
def upz (z : Int) : Nat := fpat (decide (z < 0)) (rng 1 (decide (z < 0)) z.natAbs 1)
theorem rngA_one (n : Nat) : rngA n 1 = if FV (fl n) = n then fl n else fl n + 1 := by unfold rngA; rw [Nat.div_one, Nat.mul_one]
theorem upz_neg {z : Int} (h : z < 0) : upz z = fpat true (min (fl z.natAbs) 9218868437227405311) := by
  unfold upz rng
  simp [h]
theorem upz_pos {z : Int} (h : ¬ z < 0) : upz z = fpat false (min (rngA z.natAbs 1) 9218868437227405312) := by
  unfold upz rng
  simp [h]
/-- A pattern's number without the sign of 0. -/
theorem fz_word {s : Bool} {r : Nat} (h : r < 9218868437227405312) : fz (fword s r) = fpat s r := by
  unfold fz fword fpat
  cases s
  · simp only [Bool.false_eq_true, if_false]
    by_cases h0 : r = 0
    · rw [if_pos (.inl h0), if_pos h0]
    · rw [if_neg (by omega), if_neg h0]
  · simp only [if_true]
    by_cases h0 : r = 0
    · rw [if_pos (.inr (by omega)), if_pos h0]
    · rw [if_neg (by omega), if_neg h0]

/-- A finite pattern by its number. -/
theorem word_fv {x : Nat} (h : ffin x) : fz x = fpat (decide (fv x < 0)) (fl (fv x).natAbs) := by
  rw [fv_abs, fl_FV]
  have e := word_of h
  have hr := h.2
  conv => lhs; rw [e]
  rw [fz_word hr]
  unfold fpat
  by_cases h0 : x % 9223372036854775808 = 0
  · rw [if_pos h0, if_pos h0]
  · rw [if_neg h0, if_neg h0]
    have hp : 0 < FV (x % 9223372036854775808) := by
      have := FV_lt (show 0 < x % 9223372036854775808 by omega)
      rw [FV_zero] at this; exact this
    unfold fv
    by_cases c : 9223372036854775808 ≤ x
    · rw [if_pos c]
      simp only [c, decide_true, if_true]
      rw [if_pos (by simp; omega)]
    · rw [if_neg c]
      simp only [c, decide_false, Bool.false_eq_true, if_false]
      rw [if_neg (by simp)]

theorem rn_cases (z : Int) : (rn z).natAbs = FV (fl z.natAbs) ∨ (rn z).natAbs = FV (fl z.natAbs + 1) := by
  rw [rn_abs]
  unfold rnn
  rcases rngN_cases z.natAbs with e | e <;> rw [e]
  · exact .inl rfl
  · exact .inr rfl
theorem rn_sign (z : Int) : (0 ≤ z → 0 ≤ rn z) ∧ (z ≤ 0 → rn z ≤ 0) := by
  constructor
  · intro h
    have := rn_mono h
    rwa [rn_of F_zero] at this
  · intro h
    have := rn_mono h
    rwa [rn_of F_zero] at this
theorem fl_lt_inf {n e : Nat} (he : e ≤ 2044) (h : n ≤ MB e) : fl n + 1 < 9218868437227405311 := by
  have := fl_mono h
  rw [MB_rung, fl_FV] at this
  have : (e + 1) * 4503599627370496 ≤ 2045 * 4503599627370496 := Nat.mul_le_mul_right _ (by omega)
  omega

/-- Where the nearest is not below, it is the number rounded up. -/
theorem up_same {s : Nat} {z : Int} {e : Nat} (he : e ≤ 2044) (hz : z.natAbs ≤ MB e) (h : ffin s) (hs : fv s = rn z) (hle : z ≤ fv s) : fz s = upz z := by
  rw [word_fv h, hs]
  rw [hs] at hle
  have hb := fl_lt_inf he hz
  have h1 := FV_fl_le z.natAbs
  have h2 := lt_FV_fl z.natAbs
  have hc := rn_cases z
  have hsg := rn_sign z
  by_cases hn : z < 0
  · have hr : (rn z).natAbs = FV (fl z.natAbs) := by
      have := hsg.2 (by omega)
      rcases hc with hc | hc <;> omega
    rw [upz_neg hn, hr, fl_FV, Nat.min_eq_left (by omega)]
    by_cases h0 : fl z.natAbs = 0
    · rw [h0]; simp [fpat]
    · have : 0 < FV (fl z.natAbs) := by
        have := FV_lt (show 0 < fl z.natAbs by omega)
        rw [FV_zero] at this; exact this
      have := hsg.2 (by omega)
      rw [decide_eq_true (by omega)]
  · rw [upz_pos hn, rngA_one, decide_eq_false (by have := hsg.1 (by omega); omega)]
    have := hsg.1 (by omega)
    rcases hc with hc | hc
    · rw [hc, fl_FV, if_pos (by omega), Nat.min_eq_left (by omega)]
    · by_cases hx : FV (fl z.natAbs) = z.natAbs
      · have hF : F z := hx
        rw [rn_of hF] at hc
        omega
      · rw [hc, fl_FV, if_neg hx, Nat.min_eq_left (by omega)]
/-- The pattern above a finite one that is not 0. -/
def fup (s : Nat) : Nat := if s < 9223372036854775808 then s + 1 else s - 1
theorem up_next {s : Nat} {z : Int} {e : Nat} (he : e ≤ 2044) (hz : z.natAbs ≤ MB e) (h : ffin s) (hs : fv s = rn z) (hlt : fv s < z) : fv s ≠ 0 ∧ fz (fup s) = upz z ∧ ffin (fup s) := by
  have hb := fl_lt_inf he hz
  have h1 := FV_fl_le z.natAbs
  have h2 := lt_FV_fl z.natAbs
  have hc := rn_cases z
  have hsg := rn_sign z
  have hz0 : z ≠ 0 := by
    rintro rfl
    rw [rn_of F_zero] at hs
    omega
  have hff : 0 < fl z.natAbs ∧ 0 < FV (fl z.natAbs) := by
    have hp : 0 < fl z.natAbs := FV_le_iff.1 (by rw [FV_small (by omega)]; omega)
    have := FV_lt hp
    rw [FV_zero] at this
    exact ⟨hp, this⟩
  have hw := word_fv h
  have hne : fv s ≠ 0 := by
    rw [hs]
    intro h0
    rw [h0] at hc
    have := FV_lt (show fl z.natAbs < fl z.natAbs + 1 by omega)
    simp at hc
    omega
  have hsne : ¬ (s = 0 ∨ s = 9223372036854775808) := by
    rintro (rfl | rfl)
    · exact hne rfl
    · exact hne rfl
  have hfz : fz s = s := by unfold fz; rw [if_neg hsne]
  rw [hfz] at hw
  refine ⟨hne, ?_⟩
  rw [hs] at hw hlt
  by_cases hn : z < 0
  · have hr : (rn z).natAbs = FV (fl z.natAbs + 1) := by
      have := hsg.2 (by omega)
      rcases hc with hc | hc <;> omega
    have hneg : rn z < 0 := by omega
    rw [hr, fl_FV, decide_eq_true hneg] at hw
    have hs' : s = 9223372036854775808 + (fl z.natAbs + 1) := by rw [hw]; simp [fpat]
    have : fup s = fword true (fl z.natAbs) := by
      unfold fup fword; rw [if_neg (by omega), if_pos rfl]; omega
    rw [this, fz_word (by omega), upz_neg hn, Nat.min_eq_left (by omega)]
    exact ⟨rfl, ffin_word (by omega)⟩
  · have h3 := hsg.1 (by omega)
    have hr : (rn z).natAbs = FV (fl z.natAbs) := by
      rcases hc with hc | hc <;> omega
    rw [hr, fl_FV, decide_eq_false (by omega)] at hw
    have hs' : s = fl z.natAbs := by rw [hw]; unfold fpat; rw [if_neg (by omega)]; simp
    have : fup s = fword false (fl z.natAbs + 1) := by
      unfold fup fword; rw [if_pos (by omega), hs']; simp
    rw [this, fz_word (by omega), upz_pos hn, rngA_one, if_neg (by omega), Nat.min_eq_left (by omega)]
    exact ⟨rfl, ffin_word (by omega)⟩
end Verge
