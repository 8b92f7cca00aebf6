/- Vergeref3: made, infinite, greatest: a pattern out of its parts. -/
import Derived.Test.YtiadjcilfljdaaaGreatDoorG15
import Derived.Test.YtiadjcilfljdaaaGreatDoorG08
import Derived.Test.YtiadjcilfljdaaaGreatDoorG09
import Derived.Test.YtiadjcilfljdaaaGreatDoorG07
namespace Go.Proofs.YtiadjcilfljdaaaGreatDoor
set_option linter.unusedVariables false
set_option linter.unusedSimpArgs false
open Go.RowKit Verge

theorem or_top (x : Nat) (hx : x < 9223372036854775808) : Go.bits .or .u64 (x : Int) 9223372036854775808 = ((x + 9223372036854775808 : Nat) : Int) := by
  have := or_u64 x 9223372036854775808 63 hx (by decide) (by omega)
  exact this
theorem and_low (x : Nat) (hx : x < 18446744073709551616) : Go.bits .and .u64 (x : Int) 1 = ((x % 2 : Nat) : Int) := by
  have e : Go.bits .and .u64 (x : Int) ((1 : Nat) : Int) = ((x &&& 1 : Nat) : Int) := Go.u64_and_nat x 1 hx (by omega)
  rw [Nat.and_one_is_mod] at e
  exact e
theorem fpat_pos {s : Bool} {g : Nat} (h : 0 < g) : fpat s g = if s then g + 9223372036854775808 else g := by unfold fpat; rw [if_neg (by omega)]; split <;> omega

section
set_option maxRecDepth 20000
set_option maxHeartbeats 2000000
end
end Go.Proofs.YtiadjcilfljdaaaGreatDoor

/- Vergeref3: a ratio, rounded. -/
namespace Go.Proofs.YtiadjcilfljdaaaGreatDoor
set_option linter.unusedVariables false
set_option linter.unusedSimpArgs false
open Go.RowKit Verge

section
variable {w : World} {v u : Value} {xs ys : List Nat}
end
theorem blen_dig (n : Nat) : blen n ≤ 32 * (dig n).length := by
  rw [blen_lt]
  have := (dig_length_le (n := n) (k := (dig n).length)).1 (Nat.le_refl _)
  rwa [show (4294967296 : Nat) = 2 ^ 32 by rfl, ← Nat.pow_mul] at this
theorem dig_left_length (n e : Nat) : (dig (n * 2 ^ e)).length ≤ (dig n).length + e / 32 + 1 := by
  have h1 := dig_mul_length n (2 ^ e)
  have h2 : (dig (2 ^ e)).length ≤ e / 32 + 1 := dig_length_le.2 (by
    rw [show (4294967296 : Nat) = 2 ^ 32 by rfl, ← Nat.pow_mul]
    exact Nat.pow_lt_pow_right (by omega) (by omega))
  omega

section
variable (d : Int) (s : Bool) (X Y : List Nat) (va vb : Value) (K : Nat) (w : World)
end
theorem rngA_cut (N D j : Nat) (hj : 0 < j) : rngA (N * j) (D * j) = rngA N D := by
  unfold rngA
  rw [Nat.mul_div_mul_right _ _ hj]
  have : FV (fl (N / D)) * (D * j) = N * j ↔ FV (fl (N / D)) * D = N := by
    rw [← Nat.mul_assoc]
    exact ⟨fun h => Nat.eq_of_mul_eq_mul_right hj h, fun h => by rw [h]⟩
  simp only [this]
theorem rng_cut (d : Int) (s : Bool) (N D j : Nat) (hj : 0 < j) : rng d s (N * j) (D * j) = rng d s N D := by
  unfold rng
  rw [rngA_cut N D j hj, rngN_cut N D j hj, Nat.mul_div_mul_right _ _ hj]
theorem fpat_zero (s : Bool) : fpat s 0 = 0 := rfl
/-- The pattern of a ratio, rounded. -/
def rat3 (d p : Int) (q : Nat) (K : Nat) : Nat := fpat (decide (p < 0)) (rng d (decide (p < 0)) (p.natAbs * 2 ^ K) q)
end Go.Proofs.YtiadjcilfljdaaaGreatDoor
