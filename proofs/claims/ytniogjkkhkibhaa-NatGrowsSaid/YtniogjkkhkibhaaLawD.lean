/- Calls of nat by numbers that are short, more: Pow, Quo, Root, Shl, Shr. -/
import Derived.Test.YtniogjkkhkibhaaLawC
import Derived.Test.YtniogjkkhkibhaaNatM
namespace Go.Proofs.Ytniogjkkhkibhaa
set_option linter.unusedVariables false
set_option linter.unusedSimpArgs false
open Go.RowKit Verge

theorem dig_pow_length (x k m : Nat) (h : (dig x).length ≤ m) : (dig (x ^ k)).length ≤ m * k + 1 := by
  induction k with
  | zero => rw [Nat.pow_zero, dig_one]; simp
  | succ k ih =>
    rcases Nat.eq_zero_or_pos k with hk | hk
    · subst hk; simp; omega
    · have h1 := dig_mul_length (x ^ k) x
      rw [Nat.pow_succ, Nat.mul_add]
      omega

theorem long_li {w : World} {A : Option Addr} {n c x : Nat} (h : Li w A n c x) : (dig x).length ≤ 16384 := by
  obtain ⟨xs, h1, h2, h3, h4, h9, h5⟩ := h
  have := wl_le xs
  rw [wl_eq h1.1, h5] at this
  omega

section
variable {A : Option Addr} {n c x : Nat} {A' : Option Addr} {n' c' y : Nat} {w : World} (h : Li w A n c x) (h' : Li w A' n' c' y)
include h

theorem pow_l (k : Nat) (kI : Int) (P : Nat) (hk : (k : Int) = kI ∧ x ^ k = P) (hs : k ≤ 9223372036854775807 ∧ (dig P).length ≤ 16384) : Calls Try.prog 14 #[.slice A n c, .int .i64 kI] w (One w P) := by
  obtain ⟨rfl, rfl⟩ := hk
  have hl := long_li h
  obtain ⟨xs, h1, h2, h3, h4, h9, h5⟩ := h
  have := pow_any A n c xs w h1 h2 (by omega) x h5 k (by omega) (by omega)
  rw [npow_fit ((long_false x).2 hl), fit_small hs.2] at this
  refine this.mono ?_
  rintro e w' ⟨g, A1, h6, rfl, hO, h8⟩
  exact ⟨A1, rfl, ⟨hO.rd, hs.2⟩, h8⟩
end

end Go.Proofs.Ytniogjkkhkibhaa
