/- Law 8: what a ratio's comparing with an end means, in units; the least and the greatest magnitude. -/
import Derived.Test.YtmmbbkeefphaiaaMidC
import Derived.Test.YtmmbbkeefphaiaaReachA
namespace Go.Proofs.Ytmmbbkeefphaiaa
set_option linter.unusedVariables false
set_option linter.unusedSimpArgs false
open Go.RowKit Verge

theorem fb_sv (b : Nat) : sv (decide (9223372036854775808 < b)) (fbN b) * (UQ : Nat) = fv b * (fbD b : Nat) := by
  have h := fb_val b KU rfl
  have hI : ((fbN b : Nat) : Int) * (UQ : Nat) = (FV (b % 9223372036854775808) : Nat) * (fbD b : Nat) := by rw [UQ_eq]; exact_mod_cast h
  unfold fv sv
  by_cases h1 : 9223372036854775808 ≤ b
  · rw [if_pos h1]
    by_cases h2 : b = 9223372036854775808
    · subst h2
      have h0 : FV (9223372036854775808 % 9223372036854775808) = 0 := rfl
      rw [h0] at hI ⊢
      simpa using hI
    · rw [decide_eq_true (show 9223372036854775808 < b by omega), if_pos rfl, Int.neg_mul, Int.neg_mul, hI]
  · rw [if_neg h1, decide_eq_false (show ¬ 9223372036854775808 < b by omega)]
    exact hI
theorem icmp_le {a b : Int} : icmp a b ≤ 0 ↔ a ≤ b := by unfold icmp; split <;> (try split) <;> omega
theorem mul_le_iff {a b : Int} {m : Nat} (hm : 0 < m) : a * m ≤ b * m ↔ a ≤ b := by
  constructor
  · intro h
    rcases ilt_or_ge b a with h1 | h1
    · have := Int.mul_lt_mul_of_pos_right h1 (show (0 : Int) < m by omega); omega
    · exact h1
  · intro h; exact Int.mul_le_mul_of_nonneg_right h (by omega)
/-- A number's ratio against another, and the other way. -/
theorem num_le {b : Nat} {s : Bool} {n d : Nat} (hd : 0 < d) : rcmp (decide (9223372036854775808 < b)) (fbN b) (fbD b) s n d ≤ 0 ↔ fv b * (d : Nat) ≤ sv s n * (UQ : Nat) := by
  have hD := fbD_pos b
  rw [rcmp_sv _ _ _ _ _ _ hD hd, icmp_le, ← mul_le_iff UQ_pos]
  rw [show sv (decide (9223372036854775808 < b)) (fbN b) * (d : Nat) * (UQ : Nat) = sv (decide (9223372036854775808 < b)) (fbN b) * (UQ : Nat) * (d : Nat) by grind, fb_sv]
  rw [show fv b * (fbD b : Nat) * (d : Nat) = fv b * (d : Nat) * (fbD b : Nat) by grind, show sv s n * (fbD b : Nat) * (UQ : Nat) = sv s n * (UQ : Nat) * (fbD b : Nat) by grind, mul_le_iff hD]
theorem le_num {b : Nat} {s : Bool} {n d : Nat} (hd : 0 < d) : rcmp s n d (decide (9223372036854775808 < b)) (fbN b) (fbD b) ≤ 0 ↔ sv s n * (UQ : Nat) ≤ fv b * (d : Nat) := by
  have hD := fbD_pos b
  rw [rcmp_sv _ _ _ _ _ _ hd hD, icmp_le, ← mul_le_iff UQ_pos]
  rw [show sv (decide (9223372036854775808 < b)) (fbN b) * (d : Nat) * (UQ : Nat) = sv (decide (9223372036854775808 < b)) (fbN b) * (UQ : Nat) * (d : Nat) by grind, fb_sv]
  rw [show fv b * (fbD b : Nat) * (d : Nat) = fv b * (d : Nat) * (fbD b : Nat) by grind, show sv s n * (fbD b : Nat) * (UQ : Nat) = sv s n * (UQ : Nat) * (fbD b : Nat) by grind, mul_le_iff hD]
/-- What it means to be held. -/
theorem fholds_iff {x y : Nat} (hx : x < 18446744073709551616) (hy : y < 18446744073709551616) (hs : fsound x y = true) {s : Bool} {n d : Nat} (hd : 0 < d) :
    fholds (flo x y) (fhi x y) s n d = true ↔ (flo x y = 18442240474082181120 ∨ fv (flo x y) * (d : Nat) ≤ sv s n * (UQ : Nat)) ∧ (fhi x y = 9218868437227405312 ∨ sv s n * (UQ : Nat) ≤ fv (fhi x y) * (d : Nat)) := by
  obtain ⟨_, e1, e2⟩ := flo_flo hx hy hs
  have n1 := flo_ne hx hs
  have n2 := fhi_ne hy hs
  unfold fholds
  rw [e1, e2, Bool.and_eq_true, decide_eq_true_iff, decide_eq_true_iff]
  generalize flo x y = p at *
  generalize fhi x y = q at *
  refine and_congr ?_ ?_
  · unfold ecmp bI bS bN bD
    rw [if_neg n1, if_neg n1, if_neg n1, if_neg n1]
    by_cases h : p = 18442240474082181120
    · simp [h]
    · simp only [h, if_false, false_or, if_true]
      exact num_le hd
  · unfold ecmp bI bS bN bD
    by_cases h : q = 9218868437227405312
    · simp [h]
    · rw [if_neg h, if_neg h, if_neg h, if_neg h, if_neg n2, if_neg n2, if_neg n2, if_neg n2]
      simp only [h, if_true, false_or]
      exact le_num hd

theorem fabs_FK {p : Nat} (hp : p < 18446744073709551616) : (FK p < 0 → (fabs p : Int) = -FK p) ∧ (0 ≤ FK p → (fabs p : Int) = FK p) := by
  unfold fabs FK
  by_cases h : p < 9223372036854775808
  · rw [if_pos h]; omega
  · rw [if_neg h]; omega
theorem FK_le0 {p : Nat} (hp : p < 18446744073709551616) (h : 9223372036854775808 ≤ p) : FK p = -((p % 9223372036854775808 : Nat) : Int) := FK_neg h hp
theorem fv_FV {p : Nat} (hp : p < 18446744073709551616) : fv p = if FK p < 0 then -((FV (fabs p) : Nat) : Int) else ((FV (fabs p) : Nat) : Int) := by
  have hfa : fabs p = p % 9223372036854775808 := rfl
  rw [hfa]
  unfold fv
  by_cases h : 9223372036854775808 ≤ p
  · have hk := FK_le0 hp h
    rw [if_pos h]
    by_cases h0 : FK p < 0
    · rw [if_pos h0]
    · have : p % 9223372036854775808 = 0 := by omega
      rw [if_neg h0, this, FV_zero]; simp
  · have hk := FK_pos h
    rw [if_neg h, if_neg (show ¬ FK p < 0 by omega)]
theorem fv_low {b : Nat} (h : b < 9223372036854775808) : fv b = (FV b : Nat) := by
  unfold fv; rw [if_neg (by omega), Nat.mod_eq_of_lt h]
theorem fv_fneg {p : Nat} (h : p < 9223372036854775808) : fv (fneg p) = -fv p := by
  have e : fneg p = p + 9223372036854775808 := by unfold fneg; rw [if_neg (by omega)]
  rw [e]
  unfold fv
  rw [if_pos (show 9223372036854775808 ≤ p + 9223372036854775808 by omega), if_neg (show ¬ 9223372036854775808 ≤ p by omega), show (p + 9223372036854775808) % 9223372036854775808 = p % 9223372036854775808 by omega]
theorem fabs_lt' (p : Nat) : fabs p < 9223372036854775808 := by unfold fabs; omega

def LowF (p q L : Nat) : Prop := (fv L = 0 ∧ fv p ≤ 0 ∧ 0 ≤ fv q) ∨ (p ≠ 18442240474082181120 ∧ fv L = fv p ∧ fv p ≤ fv q) ∨ (q ≠ 9218868437227405312 ∧ fv L = -fv q ∧ fv p ≤ fv q)
def HighF (p q M : Nat) : Prop := p ≠ 18442240474082181120 ∧ q ≠ 9218868437227405312 ∧ ((fv M = fv q ∧ -fv q ≤ fv p ∧ fv p ≤ fv q) ∨ (fv M = -fv p ∧ fv q ≤ -fv p ∧ fv p ≤ fv q))
section
variable {p q : Nat} (hp : p < 18446744073709551616) (hq : q < 18446744073709551616) (hk : FK p ≤ FK q)
include hp hq hk
theorem low_facts (n1 : p ≠ 9218868437227405312) (n2 : q ≠ 18442240474082181120) : LowF p q (if FK p ≤ 0 ∧ 0 ≤ FK q then 0 else min (fabs p) (fabs q)) := by
  have a1 := fabs_FK hp
  have a2 := fabs_FK hq
  have v1 := fv_FV hp
  have v2 := fv_FV hq
  unfold LowF
  by_cases h0 : FK p ≤ 0 ∧ 0 ≤ FK q
  · rw [if_pos h0]
    refine .inl ⟨rfl, ?_, ?_⟩
    · rw [v1]; split
      · omega
      · have : fabs p = 0 := by omega
        rw [this, FV_zero]; simp
    · rw [v2, if_neg (by omega)]; omega
  · rw [if_neg h0]
    rcases ilt_or_ge 0 (FK p) with h1 | h1
    · rw [Nat.min_eq_left (by omega)]
      refine .inr (.inl ⟨?_, ?_, ?_⟩)
      · rintro rfl; revert h1; decide
      · rw [fv_low (fabs_lt' p), v1, if_neg (by omega)]
      · rw [v1, v2, if_neg (by omega), if_neg (by omega)]
        have := FV_mono (show fabs p ≤ fabs q by omega); omega
    · have h2 : FK q < 0 := by omega
      rw [Nat.min_eq_right (by omega)]
      refine .inr (.inr ⟨?_, ?_, ?_⟩)
      · rintro rfl; revert h2; decide
      · rw [fv_low (fabs_lt' q), v2, if_pos h2]; omega
      · rw [v1, v2, if_pos (by omega), if_pos h2]
        have := FV_mono (show fabs q ≤ fabs p by omega); omega
theorem high_facts (hM : max (fabs p) (fabs q) < 9218868437227405312) : HighF p q (max (fabs p) (fabs q)) := by
  have a1 := fabs_FK hp
  have a2 := fabs_FK hq
  have v1 := fv_FV hp
  have v2 := fv_FV hq
  refine ⟨?_, ?_, ?_⟩
  · rintro rfl
    have : fabs 18442240474082181120 = 9218868437227405312 := by decide
    omega
  · rintro rfl
    have : fabs 9218868437227405312 = 9218868437227405312 := by decide
    omega
  · rcases Nat.le_total (fabs p) (fabs q) with h | h
    · rw [Nat.max_eq_right h]
      have hm := FV_mono h
      by_cases hq0 : FK q < 0
      · have he : fabs p = fabs q := by omega
        refine .inr ⟨?_, ?_, ?_⟩
        · rw [fv_low (fabs_lt' q), v1, if_pos (show FK p < 0 by omega), he]; omega
        · rw [v1, v2, if_pos hq0, if_pos (show FK p < 0 by omega)]; omega
        · rw [v1, v2, if_pos hq0, if_pos (show FK p < 0 by omega), he]; omega
      · refine .inl ⟨?_, ?_, ?_⟩
        · rw [fv_low (fabs_lt' q), v2, if_neg hq0]
        · rw [v1, v2, if_neg hq0]; split <;> omega
        · rw [v1, v2, if_neg hq0]; split <;> omega
    · rw [Nat.max_eq_left h]
      have hm := FV_mono h
      by_cases hp0 : FK p < 0
      · refine .inr ⟨?_, ?_, ?_⟩
        · rw [fv_low (fabs_lt' p), v1, if_pos hp0]; omega
        · rw [v1, v2, if_pos hp0]; split <;> omega
        · rw [v1, v2, if_pos hp0]; split <;> omega
      · have he : fabs p = fabs q := by omega
        refine .inl ⟨?_, ?_, ?_⟩
        · rw [fv_low (fabs_lt' p), v2, if_neg (by omega), he]
        · rw [v1, v2, if_neg hp0, if_neg (by omega)]; omega
        · rw [v1, v2, if_neg hp0, if_neg (by omega), he]; omega
end
section
variable {x y : Nat} (hx : x < 18446744073709551616) (hy : y < 18446744073709551616) (hs : fsound x y = true)
include hx hy hs
theorem FK_flo_fhi : FK (flo x y) ≤ FK (fhi x y) := by
  have h := of_decide_eq_true hs
  rw [flo, if_pos hs, fhi, if_pos hs, FK_fz hx, FK_fz hy]
  exact h.2.2.1
theorem num_held (b : Nat) : fholds (flo x y) (fhi x y) (decide (9223372036854775808 < b)) (fbN b) (fbD b) = true ↔ (flo x y = 18442240474082181120 ∨ fv (flo x y) ≤ fv b) ∧ (fhi x y = 9218868437227405312 ∨ fv b ≤ fv (fhi x y)) := by
  rw [fholds_iff hx hy hs (fbD_pos b), fb_sv, mul_le_iff (fbD_pos b), mul_le_iff (fbD_pos b)]
theorem low_held {L : Nat} (hL : L < 9223372036854775808) (h : LowF (flo x y) (fhi x y) L) :
    fholds (flo x y) (fhi x y) (decide (9223372036854775808 < L)) (fbN L) (fbD L) = true ∨ fholds (flo x y) (fhi x y) (decide (9223372036854775808 < fneg L)) (fbN (fneg L)) (fbD (fneg L)) = true := by
  rw [num_held hx hy hs, num_held hx hy hs, fv_fneg hL]
  rcases h with ⟨h1, h2, h3⟩ | ⟨h1, h2, h3⟩ | ⟨h1, h2, h3⟩
  · exact .inl ⟨.inr (by omega), .inr (by omega)⟩
  · exact .inl ⟨.inr (by omega), .inr (by omega)⟩
  · exact .inr ⟨.inr (by omega), .inr (by omega)⟩
theorem high_held {M : Nat} (hM : M < 9223372036854775808) (h : HighF (flo x y) (fhi x y) M) :
    fholds (flo x y) (fhi x y) (decide (9223372036854775808 < M)) (fbN M) (fbD M) = true ∨ fholds (flo x y) (fhi x y) (decide (9223372036854775808 < fneg M)) (fbN (fneg M)) (fbD (fneg M)) = true := by
  rw [num_held hx hy hs, num_held hx hy hs, fv_fneg hM]
  obtain ⟨h1, h2, ⟨h3, h4, h5⟩ | ⟨h3, h4, h5⟩⟩ := h
  · exact .inl ⟨.inr (by omega), .inr (by omega)⟩
  · exact .inr ⟨.inr (by omega), .inr (by omega)⟩
theorem low_reach {L : Nat} (h : LowF (flo x y) (fhi x y) L) {s t : Bool} {n d : Nat} (hd : 0 < d) (hh : fholds (flo x y) (fhi x y) s n d = true) (ht : sv t n = n) :
    rcmp (decide (9223372036854775808 < L)) (fbN L) (fbD L) t n d ≤ 0 := by
  rw [num_le hd, ht]
  obtain ⟨b1, b2⟩ := (fholds_iff hx hy hs hd).1 hh
  have hz : sv s n ≤ n ∧ -(n : Int) ≤ sv s n := by unfold sv; split <;> omega
  have hU : (0 : Int) ≤ (UQ : Nat) := by omega
  have m1 := Int.mul_le_mul_of_nonneg_right hz.1 hU
  have m2 := Int.mul_le_mul_of_nonneg_right hz.2 hU
  have m0 : (0 : Int) ≤ (n : Int) * (UQ : Nat) := Int.mul_nonneg (by omega) hU
  rw [Int.neg_mul] at m2
  rcases h with ⟨h1, h2, h3⟩ | ⟨h1, h2, h3⟩ | ⟨h1, h2, h3⟩
  · rw [h1, Int.zero_mul]; exact m0
  · rw [h2]
    rcases b1 with b1 | b1
    · exact absurd b1 h1
    · omega
  · rw [h2, Int.neg_mul]
    rcases b2 with b2 | b2
    · exact absurd b2 h1
    · omega
theorem high_reach {M : Nat} (h : HighF (flo x y) (fhi x y) M) {s t : Bool} {n d : Nat} (hd : 0 < d) (hh : fholds (flo x y) (fhi x y) s n d = true) (ht : sv t n = n) :
    rcmp t n d (decide (9223372036854775808 < M)) (fbN M) (fbD M) ≤ 0 := by
  rw [le_num hd, ht]
  obtain ⟨b1, b2⟩ := (fholds_iff hx hy hs hd).1 hh
  obtain ⟨h1, h2, h3⟩ := h
  have b1 := b1.resolve_left h1
  have b2 := b2.resolve_left h2
  have hq : fv (fhi x y) ≤ fv M ∧ -fv (flo x y) ≤ fv M := by rcases h3 with ⟨a, b, c⟩ | ⟨a, b, c⟩ <;> omega
  have m1 := Int.mul_le_mul_of_nonneg_right hq.1 (show (0 : Int) ≤ (d : Nat) by omega)
  have m2 := Int.mul_le_mul_of_nonneg_right hq.2 (show (0 : Int) ≤ (d : Nat) by omega)
  rw [Int.neg_mul] at m2
  cases s
  · have e : sv false n = n := rfl
    rw [e] at b2; omega
  · have e : sv true n = -(n : Int) := rfl
    rw [e, Int.neg_mul] at b1; omega
end
end Go.Proofs.Ytmmbbkeefphaiaa
