/- Law 8: plain words on the triangle; Add upward of two that are not negative. -/
import Derived.Test.YtmmbbkeefphaiaaDistD
namespace Go.Proofs.Ytmmbbkeefphaiaa
set_option linter.unusedVariables false
set_option linter.unusedSimpArgs false
open Go.RowKit Verge

theorem upz_nat (n : Nat) : upz (n : Int) = min (rngA n 1) 9218868437227405312 := by
  rw [upz_pos (by omega), Int.natAbs_natCast]
  unfold fpat
  split
  · omega
  · simp
theorem rngA_mono {n m : Nat} (h : n ≤ m) : rngA n 1 ≤ rngA m 1 := by
  rw [rngA_one, rngA_one]
  have h1 := fl_mono h
  have h2 := FV_fl_le n
  by_cases a : FV (fl n) = n
  · rw [if_pos a]; split <;> omega
  · rw [if_neg a]
    by_cases b : FV (fl m) = m
    · rw [if_pos b]
      have : FV (fl n) < FV (fl m) := by omega
      have := FV_lt_iff.1 this
      omega
    · rw [if_neg b]; omega
theorem upz_mono {n m : Nat} (h : n ≤ m) : upz (n : Int) ≤ upz (m : Int) := by
  rw [upz_nat, upz_nat]
  have := rngA_mono h
  omega
theorem le_FV_up {n : Nat} (h : upz (n : Int) < 9218868437227405312) : n ≤ FV (upz (n : Int)) := by
  rw [upz_nat] at h ⊢
  rw [Nat.min_eq_left (by omega), rngA_one]
  by_cases a : FV (fl n) = n
  · rw [if_pos a]; omega
  · rw [if_neg a]; exact Nat.le_of_lt (lt_FV_fl n)
theorem upz_pos' {n : Nat} (h : 0 < n) : 0 < upz (n : Int) := by
  rw [upz_nat]
  have : 1 ≤ fl n := FV_le_iff.1 (by rw [FV_small (by omega)]; omega)
  rw [rngA_one]
  split <;> omega
theorem upz_zero : upz 0 = 0 := by decide
theorem papart_zero {p q : Nat} (hp : Pt p) (hq : Pt q) : papart p q = 0 ↔ p = q := by
  unfold papart
  by_cases h : p = q
  · simp [h]
  · rw [if_neg h]
    have hne : fv p ≠ fv q := fun h' => h (fv_inj hp hq h')
    by_cases h2 : fabs p = 9218868437227405312 ∨ fabs q = 9218868437227405312
    · rw [if_pos h2]; simp [h]
    · rw [if_neg h2]
      have := upz_pos' (n := (fv p - fv q).natAbs) (by omega)
      constructor
      · intro h'; omega
      · intro h'; exact absurd h' h
/-- Add upward, of two that are not negative. -/
def addup (a b : Nat) : Nat := if a = 9218868437227405312 ∨ b = 9218868437227405312 then 9218868437227405312 else upz (fv a + fv b)
theorem addup_is (a b : Nat) (ha : a ≤ 9218868437227405312) (hb : b ≤ 9218868437227405312) (w : World) : Calls Try.prog 39 #[.int .i64 1, .float .f64 a, .float .f64 b] w (Ans w (IsV (.float .f64 (addup a b)))) := by
  unfold addup
  by_cases h : a = 9218868437227405312 ∨ b = 9218868437227405312
  · rw [if_pos h]
    refine add_inf_is a b ?_ w
    rcases h with h | h
    · exact .inl ⟨h, by omega, small_nan hb, by omega⟩
    · exact .inr ⟨h, by omega, small_nan ha, by omega⟩
  · rw [if_neg h]
    exact add_fin_is a b ⟨by omega, by omega⟩ ⟨by omega, by omega⟩ w
theorem fv_small {a : Nat} (h : a ≤ 9218868437227405312) : fv a = (FV a : Nat) := by
  unfold fv; rw [if_neg (by omega), Nat.mod_eq_of_lt (by omega)]
theorem addup_le (a b : Nat) (ha : a ≤ 9218868437227405312) (hb : b ≤ 9218868437227405312) : addup a b ≤ 9218868437227405312 := by
  unfold addup; split
  · omega
  · rw [fv_small ha, fv_small hb]; exact upz_nonneg (by omega)
theorem addup_mono {a b c d : Nat} (hc : c ≤ 9218868437227405312) (hd : d ≤ 9218868437227405312) (h1 : a ≤ c) (h2 : b ≤ d) : addup a b ≤ addup c d := by
  have hl := addup_le a b (by omega) (by omega)
  unfold addup at *
  by_cases h : c = 9218868437227405312 ∨ d = 9218868437227405312
  · rw [if_pos h]; exact hl
  · rw [if_neg h, if_neg (show ¬ (a = 9218868437227405312 ∨ b = 9218868437227405312) by omega)]
    rw [fv_small (show a ≤ 9218868437227405312 by omega), fv_small (show b ≤ 9218868437227405312 by omega), fv_small hc, fv_small hd]
    have e1 := FV_mono h1
    have e2 := FV_mono h2
    have := upz_mono (n := FV a + FV b) (m := FV c + FV d) (by omega)
    rwa [Int.natCast_add, Int.natCast_add] at this
theorem papart_fin {p q : Nat} (h1 : fabs p ≠ 9218868437227405312) (h2 : fabs q ≠ 9218868437227405312) : papart p q = upz ((fv p - fv q).natAbs : Nat) := by
  unfold papart
  by_cases h : p = q
  · rw [if_pos h, h]
    have : (fv q - fv q).natAbs = 0 := by omega
    rw [this]; decide
  · rw [if_neg h, if_neg (by omega)]
theorem papart_inf {p q : Nat} (h : p ≠ q) (h1 : fabs p = 9218868437227405312 ∨ fabs q = 9218868437227405312) : papart p q = 9218868437227405312 := by
  unfold papart; rw [if_neg h, if_pos h1]
theorem tri_end (p q r : Nat) : papart p r ≤ addup (papart p q) (papart q r) := by
  have l1 := papart_le p r
  have l2 := papart_le p q
  have l3 := papart_le q r
  have big : (papart p q = 9218868437227405312 ∨ papart q r = 9218868437227405312) → papart p r ≤ addup (papart p q) (papart q r) := by
    intro h
    unfold addup; rw [if_pos h]; exact l1
  by_cases e1 : p = r
  · have : papart p r = 0 := by unfold papart; rw [if_pos e1]
    rw [this]; exact Nat.zero_le _
  by_cases i1 : fabs p = 9218868437227405312
  · by_cases e2 : p = q
    · subst e2; exact big (.inr (papart_inf e1 (.inl i1)))
    · exact big (.inl (papart_inf e2 (.inl i1)))
  by_cases i3 : fabs r = 9218868437227405312
  · by_cases e2 : q = r
    · subst e2; exact big (.inl (papart_inf e1 (.inr i3)))
    · exact big (.inr (papart_inf e2 (.inr i3)))
  by_cases i2 : fabs q = 9218868437227405312
  · by_cases e2 : p = q
    · subst e2; exact absurd i2 i1
    · exact big (.inl (papart_inf e2 (.inr i2)))
  by_cases hb : papart p q = 9218868437227405312 ∨ papart q r = 9218868437227405312
  · exact big hb
  unfold addup
  rw [if_neg hb, fv_small l2, fv_small l3, papart_fin i1 i3]
  have u1 := le_FV_up (n := (fv p - fv q).natAbs) (by rw [← papart_fin i1 i2]; omega)
  have u2 := le_FV_up (n := (fv q - fv r).natAbs) (by rw [← papart_fin i2 i3]; omega)
  rw [← papart_fin i1 i2] at u1
  rw [← papart_fin i2 i3] at u2
  have := upz_mono (n := (fv p - fv r).natAbs) (m := FV (papart p q) + FV (papart q r)) (by omega)
  rwa [Int.natCast_add] at this
theorem fdist_comm (x y x2 y2 : Nat) : fdist x2 y2 x y = fdist x y x2 y2 := by
  unfold fdist
  rw [papart_comm (flo x2 y2), papart_comm (fhi x2 y2)]
  by_cases h : fsound x y = true ∧ fsound x2 y2 = true
  · rw [if_pos h, if_pos h.symm]
  · rw [if_neg h, if_neg (show ¬ (fsound x2 y2 = true ∧ fsound x y = true) from fun h' => h h'.symm)]
theorem fdist_sound {x y x2 y2 : Nat} (h1 : fsound x y = true) (h2 : fsound x2 y2 = true) : fdist x y x2 y2 = max (papart (flo x y) (flo x2 y2)) (papart (fhi x y) (fhi x2 y2)) := by
  unfold fdist; rw [if_pos ⟨h1, h2⟩]
theorem fdist_le {x y x2 y2 : Nat} (h1 : fsound x y = true) (h2 : fsound x2 y2 = true) : fdist x y x2 y2 ≤ 9218868437227405312 := by
  rw [fdist_sound h1 h2]
  have := papart_le (flo x y) (flo x2 y2)
  have := papart_le (fhi x y) (fhi x2 y2)
  omega
theorem fdist_tri {x y x2 y2 x3 y3 : Nat} (h1 : fsound x y = true) (h2 : fsound x2 y2 = true) (h3 : fsound x3 y3 = true) : fdist x y x3 y3 ≤ addup (fdist x y x2 y2) (fdist x2 y2 x3 y3) := by
  have l2 := fdist_le h1 h2
  have l3 := fdist_le h2 h3
  rw [fdist_sound h1 h3]
  refine Nat.max_le.2 ⟨Nat.le_trans (tri_end _ (flo x2 y2) _) ?_, Nat.le_trans (tri_end _ (fhi x2 y2) _) ?_⟩
  · refine addup_mono l2 l3 ?_ ?_
    · rw [fdist_sound h1 h2]; omega
    · rw [fdist_sound h2 h3]; omega
  · refine addup_mono l2 l3 ?_ ?_
    · rw [fdist_sound h1 h2]; omega
    · rw [fdist_sound h2 h3]; omega
theorem fdist_zero {x y x2 y2 : Nat} (hx : x < 18446744073709551616) (hy : y < 18446744073709551616) (hx2 : x2 < 18446744073709551616) (hy2 : y2 < 18446744073709551616) (h1 : fsound x y = true) (h2 : fsound x2 y2 = true) :
    fdist x y x2 y2 = 0 ↔ flo x y = flo x2 y2 ∧ fhi x y = fhi x2 y2 := by
  have e1 := (ends_of hx hy h1).pts
  have e2 := (ends_of hx2 hy2 h2).pts
  rw [fdist_sound h1 h2, ← papart_zero e1.1 e2.1, ← papart_zero e1.2 e2.2]
  omega
theorem dist_const : fdist 4607182418800017408 4611686018427387904 4609434218613702656 4616189618054758400 = 4611686018427387904 := by decide +kernel
end Go.Proofs.Ytmmbbkeefphaiaa
