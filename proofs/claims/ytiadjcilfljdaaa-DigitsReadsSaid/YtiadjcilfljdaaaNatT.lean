/- nat's calls in one form, for a seat without Shr and Sub (a part of XRoundB, and Mul, Pow, Quo). -/
import Derived.Test.YtiadjcilfljdaaaAns
import Derived.Test.YtiadjcilfljdaaaNatM
import Derived.Test.YtiadjcilfljdaaaNatW
namespace Go.Proofs.Ytiadjcilfljdaaa
set_option linter.unusedVariables false
set_option linter.unusedSimpArgs false
open Go.RowKit Verge

/-- A natural's list, no longer than it must be. -/
def IsT (n : Nat) (v : Value) (w : World) : Prop := ∃ A, v = .slice A (dig n).length (dig n).length ∧ Rd w A (dig n)
theorem IsT.mono (n : Nat) : Mono (IsT n) := fun _ _ _ hb ⟨A, e, h⟩ => ⟨A, e, h.below hb⟩
def Is3 (φ ψ χ : Value → World → Prop) (v : Value) (w : World) : Prop := ∃ a b c, v = .tuple #[a, b, c] ∧ φ a w ∧ ψ b w ∧ χ c w
theorem len_of_blen {n : Nat} (h : blen n ≤ 500000) : (dig n).length ≤ 15625 := by
  obtain ⟨k, hk⟩ : ∃ k, k = 15625 := ⟨_, rfl⟩
  rw [← hk, dig_length_le, pow32, ← blen_lt]; omega
variable {n m : Nat} {v u : Value} {w : World}
theorem nlen_is (hv : IsT n v w) (h : blen n ≤ 500000) : Calls Try.prog 22 #[v] w (Ans w (IsV (.int .i64 (blen n : Nat)))) := by
  obtain ⟨A, rfl, hR⟩ := hv
  have hl := len_of_blen h
  have := len_any A _ (dig n).length (dig n) w hR rfl (by omega)
  rw [val_dig] at this
  exact ans_quiet this
theorem nshl_is (e : Nat) (hv : IsT n v w) (h : blen n + e ≤ 500000) : Calls Try.prog 12 #[v, .int .i64 (e : Int)] w (Ans w (Is2 (IsT (n * 2 ^ e)) (IsV (.int .i64 0)))) := by
  obtain ⟨A, rfl, hR⟩ := hv
  have hl := len_of_blen (n := n) (by omega)
  have e1 : nshl n (e : Int) = (dig (n * 2 ^ e), 0) := by
    unfold nshl
    rw [if_neg (by omega), (long_false _).2 (by omega), if_neg (by simp)]
    by_cases h0 : n = 0
    · subst h0; rw [if_pos rfl, Nat.zero_mul, dig_zero]
    · rw [if_neg h0, if_neg (by omega), Int.toNat_natCast]
  have := shl_any A _ (dig n).length (dig n) (e : Int) w hR rfl (Nat.le_refl _) (by omega) (by omega) (by omega)
  rw [val_dig, e1] at this
  exact this.mono fun en w' ⟨g, A1, hg, he, hO, hb⟩ => ⟨_, he, ⟨_, _, rfl, ⟨A1, rfl, hO.rd⟩, rfl⟩, hb⟩
theorem nsmall_is (n : Nat) (h : n < 18446744073709551616) : Calls Try.prog 75 #[.int .u64 (n : Int)] w (Ans w (IsT n)) := by
  have := small_any (n : Int) w (by omega) (by omega)
  rw [Int.toNat_natCast] at this
  exact this.mono fun en w' ⟨g, A1, hg, he, hO, hb⟩ => ⟨_, he, ⟨A1, rfl, hO.rd⟩, hb⟩
theorem nword_is (hv : IsT n v w) (h : n < 18446744073709551616) : Calls Try.prog 82 #[v] w (Ans w (IsV (.tuple #[.int .u64 (n : Int), .bool true]))) := by
  obtain ⟨A, rfl, hR⟩ := hv
  have hl : (dig n).length ≤ 2 := dig_length_le.2 (by omega)
  have := word_any A _ (dig n).length (dig n) w hR rfl (by omega)
  rw [val_dig, if_pos h, decide_eq_true h] at this
  exact ans_drew this
theorem nmul_is (hv : IsT n v w) (hu : IsT m u w) (h : blen n ≤ 100000) (h' : blen m ≤ 100000) : Calls Try.prog 11 #[v, u] w (Ans w (Is2 (IsT (n * m)) (IsV (.int .i64 0)))) := by
  obtain ⟨A, rfl, hR⟩ := hv
  obtain ⟨B, rfl, hS⟩ := hu
  have hl := len_of_blen (n := n) (by omega)
  have hl' := len_of_blen (n := m) (by omega)
  have hp : blen (n * m) ≤ 200000 := by
    have h2 := (blen_lt n _).1 (Nat.le_refl (blen n))
    have h3 := (blen_lt m _).1 (Nat.le_refl (blen m))
    have : blen (n * m) ≤ blen n + blen m := by
      rw [blen_lt, Nat.pow_add]
      rcases Nat.eq_zero_or_pos m with h0 | h0
      · subst h0; rw [Nat.mul_zero]; exact Nat.mul_pos (Nat.two_pow_pos _) (Nat.two_pow_pos _)
      · exact Nat.lt_of_lt_of_le (Nat.mul_lt_mul_of_pos_right h2 h0) (Nat.mul_le_mul_left _ (Nat.le_of_lt h3))
    omega
  have hlp := len_of_blen (n := n * m) (by omega)
  have e : nmul n m = (dig (n * m), 0) := by
    unfold nmul
    rw [(long_false _).2 (by omega), (long_false _).2 (by omega), fit_no ((long_false _).2 (by omega)), decide_eq_false (by omega)]
    rfl
  have := mul_any A _ (dig n).length (dig n) B _ (dig m).length (dig m) w hR rfl (Nat.le_refl _) (by omega) hS rfl (Nat.le_refl _) (by omega)
  rw [val_dig, val_dig, e] at this
  exact this.mono fun en w' ⟨g, A1, hg, he, hO, hb⟩ => ⟨_, he, ⟨_, _, rfl, ⟨A1, rfl, hO.rd⟩, rfl⟩, hb⟩
theorem nquo_is (hv : IsT n v w) (hu : IsT m u w) (h : blen n ≤ 100000) (h' : blen m ≤ 100000) (h0 : m ≠ 0) : Calls Try.prog 65 #[v, u] w (Ans w (Is3 (IsT (n / m)) (IsT (n % m)) (IsV (.int .i64 0)))) := by
  obtain ⟨A, rfl, hR⟩ := hv
  obtain ⟨B, rfl, hS⟩ := hu
  have hl := len_of_blen (n := n) (by omega)
  have hl' := len_of_blen (n := m) (by omega)
  have e : nquo n m = (dig (n / m), dig (n % m), 0) := by
    unfold nquo
    rw [if_neg h0, (long_false _).2 (by omega), (long_false _).2 (by omega)]
    rfl
  have := quo_any A _ (dig n).length (dig n) B _ (dig m).length (dig m) w hR rfl (Nat.le_refl _) (by omega) hS rfl (Nat.le_refl _) (by omega)
  rw [val_dig, val_dig, e] at this
  unfold QuoPost at this
  exact this.mono fun en w' ⟨g1, g2, A1, A2, _, _, _, he, hO, hO2, hb⟩ => ⟨_, he, ⟨_, _, _, rfl, ⟨A1, rfl, hO.rd⟩, ⟨A2, rfl, hO2.rd⟩, rfl⟩, hb⟩
theorem nquo_own (hv : IsT n v w) (hu : IsT m u w) (h : blen n ≤ 100000) (h' : blen m ≤ 100000) (h0 : m ≠ 0) : Calls Try.prog 65 #[v, u] w fun e w' => ∃ g1 A1 A2, e = .returned (.tuple #[.slice A1 (dig (n / m)).length (dig (n / m)).length, .slice A2 (dig (n % m)).length (dig (n % m)).length, .int .i64 0]) ∧ Own w' g1 A1 (dig (n / m)) ∧ IsT (n % m) (.slice A2 (dig (n % m)).length (dig (n % m)).length) w' ∧ Below w.heap.size w w' := by
  obtain ⟨A, rfl, hR⟩ := hv
  obtain ⟨B, rfl, hS⟩ := hu
  have hl := len_of_blen (n := n) (by omega)
  have hl' := len_of_blen (n := m) (by omega)
  have e : nquo n m = (dig (n / m), dig (n % m), 0) := by
    unfold nquo
    rw [if_neg h0, (long_false _).2 (by omega), (long_false _).2 (by omega)]
    rfl
  have := quo_any A _ (dig n).length (dig n) B _ (dig m).length (dig m) w hR rfl (Nat.le_refl _) (by omega) hS rfl (Nat.le_refl _) (by omega)
  rw [val_dig, val_dig, e] at this
  unfold QuoPost at this
  exact this.mono fun en w' ⟨g1, g2, A1, A2, _, _, _, he, hO, hO2, hb⟩ => ⟨g1, A1, A2, he, hO, ⟨A2, rfl, hO2.rd⟩, hb⟩
theorem npow_is (k : Nat) (hv : IsT n v w) (h : blen n ≤ 100) (h' : blen (n ^ k) ≤ 100000) (hk : k ≤ 1000000) : Calls Try.prog 77 #[v, .int .i64 (k : Int)] w (Ans w (Is2 (IsT (n ^ k)) (IsV (.int .i64 0)))) := by
  obtain ⟨A, rfl, hR⟩ := hv
  have hl := len_of_blen (n := n) (by omega)
  have hlp := len_of_blen (n := n ^ k) (by omega)
  have e : npow n (k : Int) = (dig (n ^ k), 0) := by
    unfold npow
    rw [if_neg (by omega), (long_false _).2 (by omega), Int.toNat_natCast, fit_no ((long_false _).2 (by omega))]
    rfl
  have := pow_any A _ (dig n).length (dig n) w hR rfl (by omega) n (val_dig n) (k : Int) (by omega) (by omega)
  rw [e] at this
  unfold PowPost at this
  exact this.mono fun en w' ⟨g, A1, hg, he, hO, hb⟩ => ⟨_, he, ⟨_, _, rfl, ⟨A1, rfl, hO.rd⟩, rfl⟩, hb⟩
end Go.Proofs.Ytiadjcilfljdaaa
