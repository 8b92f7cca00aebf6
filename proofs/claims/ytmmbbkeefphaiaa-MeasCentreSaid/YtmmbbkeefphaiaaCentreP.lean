/- Law 8: plain words on the middle, the radius and the width. -/
import Derived.Test.YtmmbbkeefphaiaaCentreA
namespace Go.Proofs.Ytmmbbkeefphaiaa
set_option linter.unusedVariables false
set_option linter.unusedSimpArgs false
open Go.RowKit Verge

theorem half_up (t : Nat) : t ≤ FV (fl t) * 2 := by
  have h1 := lt_FV_fl t
  rw [FV_succ] at h1
  rcases Nat.eq_zero_or_pos (fl t) with h0 | h0
  · rw [h0] at h1 ⊢
    have : FV 0 = 0 := rfl
    rw [this] at h1 ⊢
    have : t = 0 := by
      have h2 : fl t = 0 := h0
      rcases Nat.eq_zero_or_pos t with h | h
      · exact h
      · have : 1 ≤ fl t := FV_le_iff.1 (by rw [FV_small (by omega)]; omega)
        omega
    omega
  · have h2 : 2 ^ (fl t / 4503599627370496 - 1) ≤ FV (fl t) := by
      rcases Nat.lt_or_ge (fl t) 4503599627370496 with h | h
      · rw [Nat.div_eq_of_lt h, FV_small (by omega)]; exact h0
      · have := FV_ge_binade (fl t) h
        have h3 := Nat.two_pow_pos (fl t / 4503599627370496 - 1)
        omega
    omega
theorem mid_far {a b : Int} {M : Nat} (ha : (-(M : Int)) ≤ a) (hb : b ≤ M) (hb0 : 0 ≤ b) (h0 : 0 ≤ a + b) : ((FV (rngN (a + b).natAbs 2) : Nat) : Int) - a ≤ M ∧ b - ((FV (rngN (a + b).natAbs 2) : Nat) : Int) ≤ M := by
  obtain ⟨t, ht⟩ := Int.eq_ofNat_of_zero_le (show 0 ≤ (M : Int) + a by omega)
  have h1 : rngN (a + b).natAbs 2 ≤ fl t := rngN_le (by omega) (Nat.le_trans (by omega) (half_up t))
  have h2 := FV_mono h1
  have h3 := FV_fl_le t
  omega
theorem midz_far {p q : Nat} (hp : ffin p) (hq : ffin q) (h : fv p ≤ fv q) : fv (midz (fv p + fv q)) - fv p ≤ (FV 9218868437227405311 : Nat) ∧ fv q - fv (midz (fv p + fv q)) ≤ (FV 9218868437227405311 : Nat) := by
  have fp := fv_F p
  have fq := fv_F q
  have bp : (fv p).natAbs ≤ FV 9218868437227405311 := by rw [fv_abs]; exact FV_mono (by have := hp.2; omega)
  have bq : (fv q).natAbs ≤ FV 9218868437227405311 := by rw [fv_abs]; exact FV_mono (by have := hq.2; omega)
  obtain ⟨a, ha⟩ : ∃ a, fv p = a := ⟨_, rfl⟩
  obtain ⟨b, hb⟩ : ∃ a, fv q = a := ⟨_, rfl⟩
  rw [ha] at fp bp h ⊢
  rw [hb] at fq bq h ⊢
  clear ha hb hp hq
  unfold midz
  by_cases h0 : a + b < 0
  · obtain ⟨h1, h2, h3⟩ := mid_pos (F_neg fq) (F_neg fp) (by omega) (show 0 ≤ -b + -a by omega) (M := 9218868437227405311) (by omega) (by omega)
    obtain ⟨h4, h5⟩ := mid_far (a := -b) (b := -a) (M := FV 9218868437227405311) (by omega) (by omega) (by omega) (by omega)
    rw [show (-b + -a).natAbs = (a + b).natAbs by omega] at h1 h2 h3 h4 h5
    rw [decide_eq_true h0, Nat.min_eq_left (by omega)]
    obtain ⟨e1, e2, e3⟩ := fv_fpat (s := true) (r := rngN (a + b).natAbs 2) (by omega)
    rw [e1]
    simp only [if_true]
    omega
  · obtain ⟨h1, h2, h3⟩ := mid_pos fp fq h (show 0 ≤ a + b by omega) (M := 9218868437227405311) bq (by omega)
    obtain ⟨h4, h5⟩ := mid_far (a := a) (b := b) (M := FV 9218868437227405311) (by omega) (by omega) (by omega) (by omega)
    rw [decide_eq_false h0, Nat.min_eq_left (by omega)]
    obtain ⟨e1, e2, e3⟩ := fv_fpat (s := false) (r := rngN (a + b).natAbs 2) (by omega)
    rw [e1]
    exact ⟨by simpa using h4, by simpa using h5⟩
theorem upz_fin {n : Nat} (h : n ≤ FV 9218868437227405311) : upz (n : Int) < 9218868437227405312 := by
  rw [upz_nat]
  have h1 := fl_mono h
  rw [fl_FV] at h1
  have h2 := FV_fl_le n
  rw [rngA_one]
  by_cases a : FV (fl n) = n
  · rw [if_pos a]; omega
  · rw [if_neg a]
    have : FV (fl n) < FV 9218868437227405311 := by omega
    have := FV_lt_iff.1 this
    omega
theorem FV_pred_up {n : Nat} (h : upz (n : Int) < 9218868437227405312) (h0 : 0 < upz (n : Int)) : FV (upz (n : Int) - 1) < n := by
  rw [upz_nat] at h h0 ⊢
  rw [Nat.min_eq_left (by omega)] at h0 ⊢
  rw [rngA_one] at h0 ⊢
  have h2 := FV_fl_le n
  by_cases a : FV (fl n) = n
  · rw [if_pos a] at h0 ⊢
    have := FV_lt (show fl n - 1 < fl n by omega)
    omega
  · rw [if_neg a, Nat.add_sub_cancel]; omega
theorem wid_le {n r : Nat} (h : n ≤ 2 * FV r) (hw : upz (n : Int) < 9218868437227405312) : FV (upz (n : Int)) ≤ 2 * FV r := by
  have hF : Verge.Fn (2 * FV r) := by
    have := F_double (a := ((FV r : Nat) : Int)) (F_nat (Fn_FV r))
    unfold F at this
    rwa [show (2 * ((FV r : Nat) : Int)).natAbs = 2 * FV r by omega] at this
  have hF : FV (fl (2 * FV r)) = 2 * FV r := hF
  have hm := rngA_mono h
  rw [rngA_one (2 * FV r), if_pos hF] at hm
  rw [upz_nat] at hw ⊢
  rw [Nat.min_eq_left (by omega)]
  have := FV_mono hm
  rw [hF] at this
  exact this
/-- Everything that the law asks of a bounded interval. -/
theorem centre_facts {p q m r w : Nat} (h : Ends p q) (hw : pwild p q = false) (hm : pmid p q = m) (hr : prad p q = r) (hwi : pwid p q = w) :
    r < 9218868437227405312 ∧ w ≤ 9218868437227405312 ∧ cin p m r = true ∧ cin q m r = true ∧ (0 < r → (cin p m (r - 1) && cin q m (r - 1)) = false) ∧ (w < 9218868437227405312 → fv w ≤ fv r * 2) ∧
    (∀ (a : Int) (d : Nat), 0 < d → fv p * (d : Nat) ≤ a * (UQ : Nat) → a * (UQ : Nat) ≤ fv q * (d : Nat) → decide (((a * (UQ : Nat) - fv m * (d : Nat)).natAbs : Int) ≤ fv r * (d : Nat)) = true) := by
  obtain ⟨m1, m2, m3, m4⟩ := pmid_fin h hw
  have hf := h.fin hw
  have e : pmid p q = midz (fv p + fv q) := by
    have hw' := hw
    unfold pwild at hw'
    rw [Bool.or_eq_false_iff] at hw'
    unfold pmid; rw [if_neg (of_decide_eq_false hw'.1), if_neg (of_decide_eq_false hw'.2)]
  have hfar := midz_far hf.1 hf.2 (fv_le h.1 h.2.1 h.2.2.2.2.2.2.1)
  rw [← e, hm] at hfar
  rw [hm] at m1 m2 m3 m4
  unfold prad at hr
  unfold pwid at hwi
  rw [if_neg (by rw [hw]; simp)] at hr hwi
  rw [hm] at hr
  obtain ⟨N, hN⟩ := Int.eq_ofNat_of_zero_le (show 0 ≤ max (fv m - fv p) (fv q - fv m) by omega)
  obtain ⟨L, hL⟩ := Int.eq_ofNat_of_zero_le (show 0 ≤ fv q - fv p by omega)
  rw [hN] at hr
  rw [hL] at hwi
  have hN1 : N ≤ FV 9218868437227405311 := by omega
  have hrf := upz_fin hN1
  have hup := le_FV_up hrf
  have hpd := FV_pred_up hrf
  rw [hr] at hrf hup hpd
  have hfr : fv r = (FV r : Nat) := fv_small (by omega)
  have hwl := upz_nonneg (P := (L : Int)) (by omega)
  rw [hwi] at hwl
  refine ⟨hrf, hwl, ?_, ?_, ?_, ?_, ?_⟩
  · unfold cin; rw [hfr]; exact decide_eq_true (by omega)
  · unfold cin; rw [hfr]; exact decide_eq_true (by omega)
  · intro h0
    have := hpd h0
    unfold cin
    rw [fv_small (show r - 1 ≤ 9218868437227405312 by omega)]
    by_cases c : fv q - fv m ≤ fv m - fv p
    · rw [decide_eq_false (show ¬ (((fv p - fv m).natAbs : Int) ≤ (FV (r - 1) : Nat)) by omega), Bool.false_and]
    · rw [decide_eq_false (show ¬ (((fv q - fv m).natAbs : Int) ≤ (FV (r - 1) : Nat)) by omega), Bool.and_false]
  · intro h0
    have := wid_le (n := L) (r := r) (by omega) (by rw [hwi]; exact h0)
    rw [hwi] at this
    rw [hfr, fv_small hwl]; omega
  · intro a d hd l1 l2
    refine decide_eq_true ?_
    rw [hfr]
    have hd' : (0 : Int) ≤ (d : Nat) := by omega
    have k1 : (fv m - fv p) * (d : Nat) ≤ (FV r : Nat) * (d : Nat) := Int.mul_le_mul_of_nonneg_right (by omega) hd'
    have k2 : (fv q - fv m) * (d : Nat) ≤ (FV r : Nat) * (d : Nat) := Int.mul_le_mul_of_nonneg_right (by omega) hd'
    rw [Int.sub_mul] at k1 k2
    omega
/-- The middle is a point of the interval. -/
theorem mid_held {p q : Nat} (h : Ends p q) : ffin (pmid p q) ∧ ((p = 18442240474082181120 ∨ fv p ≤ fv (pmid p q)) ∧ (q = 9218868437227405312 ∨ fv (pmid p q) ≤ fv q)) := by
  cases hw : pwild p q
  · obtain ⟨m1, m2, m3, m4⟩ := pmid_fin h hw
    exact ⟨m1, .inr m3, .inr m4⟩
  · have hl : ∀ {x : Nat}, ffin x → (fv x).natAbs ≤ FV 9218868437227405311 := fun {x} hx => by rw [fv_abs]; exact FV_mono (by have := hx.2; omega)
    obtain ⟨h1, h2, h3, h4, h5, h6, _⟩ := h
    unfold pmid
    by_cases c1 : p = 18442240474082181120
    · rw [if_pos c1]
      by_cases c2 : q = 9218868437227405312
      · rw [if_pos c2]; exact ⟨⟨by omega, by omega⟩, .inl c1, .inl c2⟩
      · rw [if_neg c2]
        have hq := hl (fin_of h2 h4 c2 h6)
        have e : fv 18442240474082181119 = -((FV 9218868437227405311 : Nat) : Int) := by unfold fv; rw [if_pos (by omega)]
        exact ⟨⟨by omega, by omega⟩, .inl c1, .inr (by rw [e]; omega)⟩
    · rw [if_neg c1]
      have c2 : q = 9218868437227405312 := by
        unfold pwild at hw
        rw [Bool.or_eq_true] at hw
        rcases hw with hw | hw
        · exact absurd (of_decide_eq_true hw) c1
        · exact of_decide_eq_true hw
      rw [if_pos c2]
      have hp := hl (fin_of h1 h3 h5 c1)
      have e : fv 9218868437227405311 = ((FV 9218868437227405311 : Nat) : Int) := by unfold fv; rw [if_neg (by omega)]
      exact ⟨⟨by omega, by omega⟩, .inr (by rw [e]; omega), .inl c2⟩
theorem mid_const : fmid 4607182418800017408 4613937818241073152 = 4611686018427387904 := by decide +kernel
end Go.Proofs.Ytmmbbkeefphaiaa
