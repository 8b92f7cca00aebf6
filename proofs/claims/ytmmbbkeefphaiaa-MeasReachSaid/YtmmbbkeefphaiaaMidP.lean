/- Plain words on binary64: the middle of two numbers, rounded once, by the quick road and by halves. -/
import Derived.Test.YtmmbbkeefphaiaaMid
namespace Verge
set_option linter.unusedVariables false
set_option linter.unusedSimpArgs false

/-- Half a number of units, to the nearest: its pattern. -/
def midz (P : Int) : Nat := fpat (decide (P < 0)) (min (rngN P.natAbs 2) 9218868437227405312)
theorem rngN_le {N D r : Nat} (hD : 0 < D) (h : N ≤ FV r * D) : rngN N D ≤ r := by
  rcases Nat.lt_or_ge (fl (N / D)) r with hl | hl
  · unfold rngN; split <;> (try split) <;> (try split) <;> omega
  · have h1 := fl_div_le N D hD
    have h2 := Nat.mul_le_mul_right D (FV_mono hl)
    have e : FV (fl (N / D)) * D = FV r * D := by omega
    have e2 := FV_inj (Nat.eq_of_mul_eq_mul_right hD e)
    have hN : N = FV r * D := by omega
    unfold rngN
    rw [e2, if_pos]
    · exact Nat.le_refl _
    · have := FV_lt (show r < r + 1 by omega)
      have := Nat.mul_lt_mul_of_pos_right this hD
      rw [Nat.add_mul]
      omega
theorem fword_lt (s : Bool) {r : Nat} (h : r < 9223372036854775808) : fword s r < 18446744073709551616 := by unfold fword; split <;> omega
theorem sdec (s : Bool) {r : Nat} (h : r < 9223372036854775808) : decide (9223372036854775808 ≤ fword s r) = s ∧ fword s r % 9223372036854775808 = r := by
  unfold fword; cases s
  · exact ⟨decide_eq_false (by simp; omega), by simp; omega⟩
  · exact ⟨decide_eq_true (by simp), by simp; omega⟩
theorem mid_quick {p q : Nat} (hp : ffin p) (hq : ffin q) (h : rngN (fv p + fv q).natAbs 1 < 9218868437227405312) :
    ∃ s h, Ieee.double.add p q = some s ∧ ffin s ∧ Ieee.double.div s 4611686018427387904 = some h ∧ h < 18446744073709551616 ∧ fz h = midz (fv p + fv q) := by
  have e := add_fin hp hq
  generalize hz0 : (decide (9223372036854775808 ≤ p) && decide (9223372036854775808 ≤ q)) = z0 at e
  clear hz0
  obtain ⟨P, hP⟩ : ∃ P, fv p + fv q = P := ⟨_, rfl⟩
  rw [hP] at e h ⊢
  rw [Nat.min_eq_left (by omega)] at e
  obtain ⟨sg, hsg⟩ : ∃ sg, (if P = 0 then z0 else decide (P < 0)) = sg := ⟨_, rfl⟩
  rw [hsg] at e
  have hf : ffin (fword sg (rngN P.natAbs 1)) := ffin_word h
  have hd := div_two hf
  obtain ⟨d1, d2⟩ := sdec sg (show rngN P.natAbs 1 < 9223372036854775808 by omega)
  rw [d1, d2, rngN_half] at hd
  have hle : rngN P.natAbs 2 ≤ rngN P.natAbs 1 := by
    have := rngN_le (N := FV (rngN P.natAbs 1)) (D := 2) (r := rngN P.natAbs 1) (by omega) (by omega)
    rwa [rngN_half] at this
  rw [Nat.min_eq_left (by omega)] at hd
  refine ⟨_, _, e, hf, hd, by unfold fword; split <;> omega, ?_⟩
  rw [fz_word (by omega)]
  unfold midz
  rw [Nat.min_eq_left (by omega)]
  by_cases h0 : P = 0
  · subst h0
    have : rngN (0 : Int).natAbs 2 = 0 := by
      have := rngN_le (N := (0 : Int).natAbs) (D := 2) (r := 0) (by omega) (by simp)
      omega
    rw [this]; rfl
  · rw [← hsg, if_neg h0]
theorem fl_le (n : Nat) : fl n ≤ n := by
  have h1 := FV_fl_le n
  have h2 : ∀ r, r ≤ FV r := by
    intro r
    induction r with
    | zero => omega
    | succ r ih => have := FV_lt (show r < r + 1 by omega); omega
  have := h2 (fl n)
  omega
theorem half_exact {a : Nat} (ha : Fn a) (h : 9007199254740992 ≤ a) : a % 2 = 0 ∧ Fn (a / 2) ∧ rngN a 2 = fl (a / 2) := by
  obtain ⟨m, k, e, hm, hk⟩ := Fn_parts ha
  have hk1 : k ≠ 0 := by rintro rfl; rw [Nat.pow_zero, Nat.mul_one] at e; omega
  obtain ⟨j, rfl⟩ : ∃ j, k = j + 1 := ⟨k - 1, by omega⟩
  have e2 : a = m * 2 ^ j * 2 := by rw [e, Nat.pow_succ, Nat.mul_assoc]
  have e3 : a / 2 = m * 2 ^ j := by omega
  have hF : Fn (a / 2) := Fn_of (by omega) e3
  refine ⟨by omega, hF, ?_⟩
  have h1 := rngN_cut (a / 2) 1 2 (by omega)
  rw [Nat.one_mul, show a / 2 * 2 = a by omega] at h1
  rw [h1]
  have : a / 2 = FV (fl (a / 2)) := hF.symm
  rw [this, rngN_FV, fl_FV]
theorem half_word {p a : Nat} (hp : ffin p) (ha : FV (p % 9223372036854775808) = a) (h : 9007199254740992 ≤ a) :
    ∃ r, Ieee.double.div p 4611686018427387904 = some (fword (decide (9223372036854775808 ≤ p)) r) ∧ r < 9218868437227405312 ∧ FV r = a / 2 ∧ a % 2 = 0 := by
  have hd := div_two hp
  rw [ha] at hd
  obtain ⟨h1, h2, h3⟩ := half_exact (ha ▸ Fn_FV _) h
  rw [h3] at hd
  have hle : fl (a / 2) ≤ p % 9223372036854775808 := by
    have := fl_mono (show a / 2 ≤ a by omega)
    rw [← ha, fl_FV] at this
    rw [← ha]; exact this
  have := hp.2
  rw [Nat.min_eq_left (by omega)] at hd
  exact ⟨_, hd, by omega, h2, h1⟩
theorem over_big {n K : Nat} (hK : K = 2045) (h : ¬ rngN n 1 < 9218868437227405312) : 2 * FV 9218868437227405311 + 2 ^ K ≤ 2 * n := by
  have hs := FV_succ 9218868437227405311
  have e : 9218868437227405311 / 4503599627370496 - 1 = K := by rw [hK]
  rw [e] at hs
  have hs : FV 9218868437227405312 = FV 9218868437227405311 + 2 ^ K := hs
  generalize 2 ^ K = U at *
  rcases rngN_cases n with hc | hc
  · have : 9218868437227405312 ≤ fl n := by omega
    have h1 := FV_mono this
    have h2 := FV_fl_le n
    omega
  · by_cases hf : 9218868437227405312 ≤ fl n
    · have h1 := FV_mono hf
      have h2 := FV_fl_le n
      omega
    · have hf' : fl n = 9218868437227405311 := by omega
      rw [rngN_one, hf'] at hc
      split at hc
      · omega
      · rename_i hh
        omega
theorem mid_slow {p q : Nat} (hp : ffin p) (hq : ffin q) (h : ¬ rngN (fv p + fv q).natAbs 1 < 9218868437227405312) :
    ∃ s a b, Ieee.double.add p q = some s ∧ s < 18446744073709551616 ∧ s % 9223372036854775808 = 9218868437227405312 ∧ Ieee.double.div p 4611686018427387904 = some a ∧ Ieee.double.div q 4611686018427387904 = some b ∧ Ieee.double.add a b = some (midz (fv p + fv q)) := by
  obtain ⟨K, hK⟩ : ∃ K, K = 2045 := ⟨_, rfl⟩
  have hov := over_big hK h
  have hU : 18014398509481984 ≤ 2 ^ K := by
    have : 2 ^ 54 ≤ 2 ^ K := Nat.pow_le_pow_right (by omega) (by omega)
    exact this
  generalize 2 ^ K = U at *
  have e := add_fin hp hq
  generalize (decide (9223372036854775808 ≤ p) && decide (9223372036854775808 ≤ q)) = z0 at e
  rw [Nat.min_eq_right (show 9218868437227405312 ≤ rngN (fv p + fv q).natAbs 1 by omega)] at e
  have ha := fv_abs p
  have hb := fv_abs q
  have la : FV (p % 9223372036854775808) ≤ FV 9218868437227405311 := FV_mono (by have := hp.2; omega)
  have lb : FV (q % 9223372036854775808) ≤ FV 9218868437227405311 := FV_mono (by have := hq.2; omega)
  generalize FV 9218868437227405311 = Mx at *
  obtain ⟨a, hae⟩ : ∃ a, FV (p % 9223372036854775808) = a := ⟨_, rfl⟩
  obtain ⟨b, hbe⟩ : ∃ b, FV (q % 9223372036854775808) = b := ⟨_, rfl⟩
  rw [hae] at ha la
  rw [hbe] at hb lb
  have sa : fv p = if decide (9223372036854775808 ≤ p) = true then -(a : Int) else a := by unfold fv; rw [hae]; simp
  have sb : fv q = if decide (9223372036854775808 ≤ q) = true then -(b : Int) else b := by unfold fv; rw [hbe]; simp
  have ka : 9007199254740992 ≤ a := by omega
  have kb : 9007199254740992 ≤ b := by omega
  obtain ⟨r, hr1, hr2, hr3, hr4⟩ := half_word hp hae ka
  obtain ⟨t, ht1, ht2, ht3, ht4⟩ := half_word hq hbe kb
  generalize decide (9223372036854775808 ≤ p) = sp at *
  generalize decide (9223372036854775808 ≤ q) = sq at *
  have hss : sp = sq := by
    cases sp <;> cases sq <;> simp at sa sb ⊢ <;> omega
  subst hss
  refine ⟨_, _, _, e, ?_, ?_, hr1, ht1, ?_⟩
  · exact fword_lt _ (by omega)
  · exact (sdec _ (by omega)).2
  · have e2 := add_fin (ffin_word (s := sp) hr2) (ffin_word (s := sp) ht2)
    rw [fv_word (by omega), fv_word (by omega), hr3, ht3] at e2
    rw [e2]
    generalize (decide (9223372036854775808 ≤ fword sp r) && decide (9223372036854775808 ≤ fword sp t)) = z1
    have hab : ∀ P : Int, (P = (if sp = true then -((a / 2 : Nat) : Int) else ((a / 2 : Nat) : Int)) + (if sp = true then -((b / 2 : Nat) : Int) else ((b / 2 : Nat) : Int))) → P.natAbs = a / 2 + b / 2 ∧ ¬ P = 0 ∧ (P < 0 ↔ sp = true) := by
      intro P hP; cases sp <;> simp at hP ⊢ <;> omega
    obtain ⟨h1, h2, h3⟩ := hab _ rfl
    rw [if_neg h2, h1, sum_half a b hr4 ht4]
    have hPa : (fv p + fv q).natAbs = a + b ∧ (fv p + fv q < 0 ↔ sp = true) := by
      rw [sa, sb]; cases sp <;> simp <;> omega
    unfold midz
    rw [hPa.1]
    have hd : decide ((if sp = true then -((a / 2 : Nat) : Int) else ((a / 2 : Nat) : Int)) + (if sp = true then -((b / 2 : Nat) : Int) else ((b / 2 : Nat) : Int)) < 0) = decide (fv p + fv q < 0) := decide_eq_decide.2 (h3.trans hPa.2.symm)
    rw [hd]
    have hpos : min (rngN (a + b) 2) 9218868437227405312 ≠ 0 := by
      have h5 : 0 < rngN (a + b) 2 := by
        rw [← sum_half a b hr4 ht4]
        have := rngN_mono (show 1 ≤ a / 2 + b / 2 by omega)
        have e1 : rngN 1 1 = 1 := by decide
        omega
      omega
    unfold fpat fword
    rw [if_neg hpos]
/-- The document's road. -/
theorem rng_near {s : Bool} (N D : Nat) : rng 0 s N D = min (rngN N D) 9218868437227405312 := by
  unfold rng; rw [if_neg (by omega)]
theorem midz_lt (P : Int) : midz P < 18446744073709551616 := by
  unfold midz fpat; split
  · omega
  · split <;> omega
end Verge
