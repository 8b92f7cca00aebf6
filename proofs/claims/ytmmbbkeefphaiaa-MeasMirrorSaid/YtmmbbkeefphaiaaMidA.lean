/- Law 8: the middle: the program's Mid. -/
import Derived.Test.YtmmbbkeefphaiaaMagA
import Derived.Test.YtmmbbkeefphaiaaRnd
namespace Go.Proofs.Ytmmbbkeefphaiaa
set_option linter.unusedVariables false
set_option linter.unusedSimpArgs false
open Go.RowKit Verge

def fneg (x : Nat) : Nat := if 9223372036854775808 ≤ x then x - 9223372036854775808 else x + 9223372036854775808
theorem xor_top {x : Nat} (h : x < 9223372036854775808) : x ^^^ 9223372036854775808 = x + 9223372036854775808 := by
  rw [← or_sign x h]
  refine Nat.eq_of_testBit_eq fun i => ?_
  rw [Nat.testBit_xor, Nat.testBit_or]
  have h2 : (9223372036854775808 : Nat).testBit i = decide (63 = i) := by
    show (2 ^ 63).testBit i = _
    exact Nat.testBit_two_pow
  rw [h2]
  by_cases hi : 63 = i
  · have : x.testBit i = false := Nat.testBit_lt_two_pow (by rw [← hi]; exact h)
    rw [this]; simp
  · simp [hi]
theorem neg_eq {x : Nat} (hx : x < 18446744073709551616) : Op.negFloat .f64 x = fneg x := by
  show x ^^^ 9223372036854775808 = fneg x
  unfold fneg
  rcases Nat.lt_or_ge x 9223372036854775808 with h | h
  · rw [if_neg (by omega), xor_top h]
  · rw [if_pos h]
    obtain ⟨y, rfl⟩ : ∃ y, x = y + 9223372036854775808 := ⟨x - 9223372036854775808, by omega⟩
    rw [← xor_top (by omega), Nat.xor_assoc, Nat.xor_self, Nat.xor_zero, xor_top (by omega)]; omega
theorem run_neg_f (x : Nat) (hx : x < 18446744073709551616) (w : World) : (Op.unary .neg (.float .f64 x)).run Try.prog w = .ok (.float .f64 (fneg x)) w := by
  rw [← neg_eq hx]; rfl
theorem fneg_lt {x : Nat} (hx : x < 18446744073709551616) : fneg x < 18446744073709551616 := by unfold fneg; split <;> omega
theorem gt_max {x : Nat} (hx : x < 18446744073709551616) : (FloatKind.f64.format.order x 9218868437227405311 == some .gt) = decide (x = 9218868437227405312) := by
  rw [o_gt hx (y := 9218868437227405311) (by omega)]
  refine decide_eq_decide.2 ?_
  unfold fnan FK
  constructor
  · rintro ⟨h1, _, h2⟩
    split at h2 <;> split at h2 <;> omega
  · rintro rfl; decide
theorem isinf_p (x : Nat) (hx : x < 18446744073709551616) (w : World) : Calls Try.prog 67 #[.float .f64 x, .int .i64 1] w fun e w' => e = .returned (.bool (decide (x = 9218868437227405312))) ∧ w = w' := by
  have ho := gt_max hx
  go_enter Try.func67, Try.ntmps67
  go_wp2
  go_ret
  exact ⟨rfl, rfl⟩
theorem isinf_m (x : Nat) (hx : x < 18446744073709551616) (w : World) : Calls Try.prog 67 #[.float .f64 x, .int .i64 (-1)] w fun e w' => e = .returned (.bool (decide (x = 18442240474082181120))) ∧ w = w' := by
  have hn := fun W => run_neg_f x hx W
  have ho := gt_max (fneg_lt hx)
  have hd : decide (fneg x = 9218868437227405312) = decide (x = 18442240474082181120) := by
    refine decide_eq_decide.2 ?_
    unfold fneg; split <;> omega
  rw [hd] at ho
  clear hd
  go_enter Try.func67, Try.ntmps67
  go_wp2
  go_ret
  exact ⟨rfl, rfl⟩
theorem isinf_0 (x : Nat) (hx : x < 18446744073709551616) (w : World) : Calls Try.prog 67 #[.float .f64 x, .int .i64 0] w fun e w' => e = .returned (.bool (decide (fabs x = 9218868437227405312))) ∧ w = w' := by
  have ho := gt_max (x := fabs x) (by unfold fabs; omega)
  have ha := Lib.hid (fun W => abs_any x hx W)
  obtain ⟨a, hae⟩ : ∃ a, fabs x = a := ⟨_, rfl⟩
  rw [hae] at ho ha ⊢
  go_enter Try.func67, Try.ntmps67
  go_wp2_with fail
  refine (ha.out _).mono ?_
  rintro en w1 ⟨rfl, rfl⟩
  go_wp2
  go_ret
  exact ⟨rfl, rfl⟩
theorem plainf_any (x : Nat) (hx : x < 18446744073709551616) (w : World) : Calls Try.prog 68 #[.float .f64 x] w fun e w' => e = .returned (.float .f64 (fz x)) ∧ w = w' := by
  have hz := o_isz hx
  by_cases h : x = 0 ∨ x = 9223372036854775808
  · rw [decide_eq_true h] at hz
    go_enter Try.func68, Try.ntmps68
    go_wp2
    go_ret
    exact ⟨congrArg (fun b => Ending.returned (.float .f64 b)) (by unfold fz; rw [if_pos h]), rfl⟩
  · rw [decide_eq_false h] at hz
    go_enter Try.func68, Try.ntmps68
    go_wp2
    go_ret
    exact ⟨congrArg (fun b => Ending.returned (.float .f64 b)) (by unfold fz; rw [if_neg h]), rfl⟩
end Go.Proofs.Ytmmbbkeefphaiaa
