/- Plain arithmetic for shifts, roots and powers. -/
import Derived.Test.YtniogjkkhkibhaaDoorPlainE
namespace Verge
set_option linter.unusedVariables false
set_option linter.unusedSimpArgs false

def nshl (a : Nat) (e : Int) : List Nat × Int := if e < 0 then ([], 1) else if long a then ([], 2) else if a = 0 then ([], 0) else if 524288 - (blen a : Int) < e then ([], 2) else (dig (a * 2 ^ e.toNat), 0)
def nshr (a : Nat) (e : Int) : List Nat × Bool × Int := if e < 0 then ([], false, 1) else if long a then ([], false, 2) else (dig (a / 2 ^ e.toNat), decide (a % 2 ^ e.toNat ≠ 0), 0)

theorem up_val (S : List Nat) (k r c v : Nat) (hS : val S = v * 2 ^ r) : val ((List.replicate c 0).take k ++ S) = v * 2 ^ (32 * (min k c) + r) := by
  rw [val_append, List.take_replicate, val_zeros, List.length_replicate, hS, pow32, Nat.pow_add]
  grind

theorem up_row (S : List Nat) (k n r v e : Nat) (hl : S.length = n + 1) (hS : val S = v * 2 ^ r) (hk : e / 32 = k) (hr : e % 32 = r) :
    ((List.replicate (k + n + 1) 0).take k ++ S ++ (List.replicate (k + n + 1) 0).drop (k + (n + 1))).length = k + (n + 1) ∧
    val ((List.replicate (k + n + 1) 0).take k ++ S ++ (List.replicate (k + n + 1) 0).drop (k + (n + 1))) = v * 2 ^ e := by
  have h0 : (List.replicate (k + n + 1) 0).drop (k + (n + 1)) = [] := List.drop_of_length_le (by simp; omega)
  rw [h0, List.append_nil]
  refine ⟨by simp [hl]; omega, ?_⟩
  rw [up_val S k r (k + n + 1) v hS, Nat.min_eq_left (by omega), ← hk, ← hr, Nat.div_add_mod]

theorem pow_shift (e : Nat) : 2 ^ e = 4294967296 ^ (e / 32) * 2 ^ (e % 32) := by
  rw [pow32, ← Nat.pow_add, Nat.div_add_mod]

/-- A number of no more than e / 32 words, shifted down e places. -/
theorem down_all {xs : List Nat} (h : W32 xs) (e : Nat) (hl : wl xs ≤ e / 32) : val xs / 2 ^ e = 0 ∧ val xs % 2 ^ e = val xs := by
  have h1 : val xs < 2 ^ e := by
    have h2 : val xs < 4294967296 ^ (e / 32) := by rw [← dig_length_le, ← wl_eq h]; exact hl
    rw [pow_shift]
    have := Nat.mul_le_mul_left (4294967296 ^ (e / 32)) (show 1 ≤ 2 ^ (e % 32) from Nat.pow_pos (by omega))
    omega
  exact ⟨Nat.div_eq_of_lt h1, Nat.mod_eq_of_lt h1⟩

theorem val_take_mono (xs : List Nat) {i k : Nat} (h : i ≤ k) : val (xs.take i) ≤ val (xs.take k) := by
  obtain ⟨d, rfl⟩ : ∃ d, k = i + d := ⟨k - i, by omega⟩
  induction d with
  | zero => exact Nat.le_refl _
  | succ d ih =>
    have := ih (by omega)
    rw [← Nat.add_assoc, val_take_succ]
    omega

theorem lost_step (xs : List Nat) (i z : Nat) (hz : xs.getD i 0 = z) : val (xs.take (i + 1)) ≠ 0 ↔ val (xs.take i) ≠ 0 ∨ z ≠ 0 := by
  rw [val_take_succ, hz]
  have hP : 0 < 4294967296 ^ i := Nat.pow_pos (by omega)
  generalize 4294967296 ^ i = P at *
  constructor
  · intro hn
    rcases Nat.eq_zero_or_pos z with h0 | h0
    · subst h0; left; simpa using hn
    · right; omega
  · rintro (h0 | h0)
    · omega
    · have : 1 * 1 ≤ P * z := Nat.mul_le_mul hP (by omega)
      omega

theorem down_div {xs : List Nat} (h : W32 xs) (e : Nat) : val xs / 2 ^ e = val (xs.drop (e / 32)) / 2 ^ (e % 32) := by
  rw [pow_shift, ← Nat.div_div_eq_div_mul, val_div xs h]

theorem down_mod {xs : List Nat} (h : W32 xs) (e x : Nat) (hk : e / 32 < xs.length) (hx : xs.getD (e / 32) 0 = x) :
    val xs % 2 ^ e = val (xs.take (e / 32)) + 4294967296 ^ (e / 32) * (x % 2 ^ (e % 32)) := by
  rw [pow_shift, Nat.mod_mul, val_div xs h, val_drop, hx]
  have h1 := val_lt (h.take (e / 32))
  rw [List.length_take, Nat.min_eq_left (by omega)] at h1
  have h2 : val xs % 4294967296 ^ (e / 32) = val (xs.take (e / 32)) := by
    rw [val_split xs (e / 32) (by omega), Nat.add_mul_mod_self_left, Nat.mod_eq_of_lt h1]
  rw [h2]
  have h3 : 2 ^ (e % 32) * 2 ^ (32 - e % 32) = 4294967296 := by rw [← Nat.pow_add, show e % 32 + (32 - e % 32) = 32 by omega]
  have h4 : (x + 4294967296 * val (xs.drop (e / 32 + 1))) % 2 ^ (e % 32) = x % 2 ^ (e % 32) := by
    rw [← h3, Nat.mul_assoc, Nat.add_mul_mod_self_left]
  rw [h4]

theorem down_lost {xs : List Nat} (h : W32 xs) (e x : Nat) (hk : e / 32 < xs.length) (hx : xs.getD (e / 32) 0 = x) :
    val xs % 2 ^ e ≠ 0 ↔ x % 2 ^ (e % 32) ≠ 0 ∨ val (xs.take (e / 32)) ≠ 0 := by
  rw [down_mod h e x hk hx]
  have hP : 0 < 4294967296 ^ (e / 32) := Nat.pow_pos (by omega)
  generalize 4294967296 ^ (e / 32) = P at *
  generalize x % 2 ^ (e % 32) = r
  constructor
  · intro hn
    rcases Nat.eq_zero_or_pos r with h0 | h0
    · right; subst h0; simpa using hn
    · left; omega
  · rintro (h0 | h0)
    · have : 1 * 1 ≤ P * r := Nat.mul_le_mul hP (by omega)
      omega
    · omega

end Verge
