/- Layer 5: Hex, by the program: the parts. -/
import Derived.Test.YtenoemjfoadgpaaDoorDigF
import Derived.Test.YtenoemjfoadgpaaDoorDigQ
import Derived.Test.YtenoemjfoadgpaaDoorFlo
import Derived.Test.YtenoemjfoadgpaaDoorShelf
namespace Go.Proofs.YtenoemjfoadgpaaDoor
set_option linter.unusedVariables false
set_option linter.unusedSimpArgs false
open Go.RowKit Verge

/-- Is a pattern a number's? -/
def fwrong (b : Nat) : Bool := decide (9218868437227405312 ≤ fabs b)
theorem wrong_any (b : Nat) (hb : b < 18446744073709551616) (w : World) : Calls Tryd.prog 22 #[.float .f64 b] w fun e w' => e = .returned (.bool (fwrong b)) ∧ w = w' := by
  have H1 := Lib.hid (fun W => isnan_any b hb W)
  have H2 := Lib.hid (fun W => isinf_0 b hb W)
  have he : fwrong b = (decide (fnan b) || decide (fabs b = 9218868437227405312)) := by
    unfold fwrong
    rw [Bool.eq_iff_iff]
    simp only [Bool.or_eq_true, decide_eq_true_eq]
    unfold fnan fabs
    omega
  rw [he]
  cases e1 : decide (fnan b)
  · rw [e1] at H1
    obtain ⟨r, hr⟩ : ∃ r, decide (fabs b = 9218868437227405312) = r := ⟨_, rfl⟩
    rw [hr] at H2 ⊢
    clear e1 hr he hb
    go_enter Tryd.func22, Tryd.ntmps22
    go_wp2_with fail
    refine (H1.out _).mono ?_
    rintro e w1 ⟨rfl, rfl⟩
    go_wp2_with fail
    refine (H2.out _).mono ?_
    rintro e w1 ⟨rfl, rfl⟩
    go_wp2
    go_ret
    exact ⟨by simp, rfl⟩
  · rw [e1] at H1
    clear e1 he hb H2
    go_enter Tryd.func22, Tryd.ntmps22
    go_wp2_with fail
    refine (H1.out _).mono ?_
    rintro e w1 ⟨rfl, rfl⟩
    go_wp2
    go_ret
    exact ⟨by simp, rfl⟩
theorem or52 (x : Nat) (hx : x < 4503599627370496) : x ||| 4503599627370496 = x + 4503599627370496 := by
  have := Nat.two_pow_add_eq_or_of_lt (i := 52) (b := x) hx 1
  rw [Nat.mul_one, show (2 : Nat) ^ 52 = 4503599627370496 by decide] at this
  rw [Nat.or_comm, ← this]; omega
set_option maxHeartbeats 1000000 in
theorem part_any (b : Nat) (hb : b < 18446744073709551616) (w : World) : Calls Tryd.prog 41 #[.float .f64 b] w fun e w' => e = .returned (.tuple #[.int .u64 (fbF b : Nat), .int .i64 ((fbE b : Int) - 1074)]) ∧ w = w' := by
  have h1 := bits_any b
  have e1 : Go.bits .and .u64 ((b / 4503599627370496 : Nat) : Int) 2047 = ((b % 9223372036854775808 / 4503599627370496 : Nat) : Int) := by
    have := Go.u64_and_nat (b / 4503599627370496) 2047 (by omega) (by omega)
    rw [show (2047 : Nat) = 2 ^ 11 - 1 from rfl, Nat.and_two_pow_sub_one_eq_mod] at this
    have h2 : b / 4503599627370496 % 2 ^ 11 = b % 9223372036854775808 / 4503599627370496 := by omega
    rw [h2] at this
    exact this
  have e2 : Go.bits .and .u64 (b : Int) 4503599627370495 = ((b % 4503599627370496 : Nat) : Int) := by
    have := Go.u64_and_nat b 4503599627370495 hb (by omega)
    rw [show (4503599627370495 : Nat) = 2 ^ 52 - 1 from rfl, Nat.and_two_pow_sub_one_eq_mod] at this
    exact this
  have e1 : Go.bits .and .u64 ((b : Int) / 4503599627370496) 2047 = ((b % 9223372036854775808 / 4503599627370496 : Nat) : Int) := by
    rw [← e1]; congr 1
  have hqf : ∃ Q F : Nat, b % 9223372036854775808 / 4503599627370496 = Q ∧ b % 4503599627370496 = F ∧ Q ≤ 2047 ∧ F < 4503599627370496 ∧ fbF b = (if Q = 0 then F else F + 4503599627370496) ∧ fbE b = Q - 1 := by
    refine ⟨_, _, rfl, rfl, by omega, by omega, ?_, rfl⟩
    unfold fbF
    by_cases hl : b % 9223372036854775808 < 4503599627370496
    · rw [if_pos hl, if_pos (Nat.div_eq_of_lt hl)]
    · rw [if_neg hl, if_neg (by omega)]; omega
  obtain ⟨Q, F, hQ, hF, hQb, hFb, hfe, hee⟩ := hqf
  rw [hQ] at e1
  rw [hF] at e2
  rw [hfe, hee]
  have e3 : Go.bits .or .u64 (F : Int) 4503599627370496 = ((F + 4503599627370496 : Nat) : Int) := by
    have := Go.u64_or_nat F 4503599627370496 (by omega) (by omega)
    rw [or52 F hFb] at this
    exact this
  have hbI : (0 : Int) ≤ b := by omega
  clear hQ hF hfe hee
  by_cases hq : Q = 0
  · subst hq
    rw [if_pos rfl]
    clear e3
    go_enter Tryd.func41, Tryd.ntmps41
    go_wp2
    go_ret2
    exact ⟨rfl, rfl⟩
  · rw [if_neg hq]
    have hq1 : (0 : Int) < Q := by omega
    have hs : ((Q - 1 : Nat) : Int) = (Q : Int) - 1 := by omega
    rw [hs]
    clear hs hq
    go_enter Tryd.func41, Tryd.ntmps41
    go_wp2
    go_ret2
    exact ⟨rfl, rfl⟩
end Go.Proofs.YtenoemjfoadgpaaDoor
