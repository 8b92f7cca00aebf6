/- Contracts of vergeref2's ratios: FromBits, RSign, RNeg. -/
import Derived.Test.YtiadjcilfljdaaaRatA
import Derived.Test.YtiadjcilfljdaaaFloat
import Derived.Deep.RegionWith
namespace Go.Proofs.Ytiadjcilfljdaaa
set_option linter.unusedVariables false
set_option linter.unusedSimpArgs false
open Go.RowKit Verge

/-- A ratio's box that is filled. -/
def Box3 (w : World) (r : Nat) (a b c : Value) : Prop := w.heap[r]? = some (.cells #[a, b, c] 43)
section
variable {w w' : World} {r : Nat} {a b c : Value}
theorem Box3.new (w : World) (a b c : Value) : Box3 (w.alloc (.cells #[a, b, c] 43)) w.heap.size a b c := by
  show (w.heap.push _)[w.heap.size]? = _
  simp
theorem Box3.lt (h : Box3 w r a b c) : r < w.heap.size := by
  by_cases hr : r < w.heap.size
  · exact hr
  · unfold Box3 at h; rw [Array.getElem?_eq_none (by omega)] at h; cases h
theorem Box3.later (h : Box3 w r a b c) (hb : Below w.heap.size w w') : Box3 w' r a b c := (hb.block r h.lt).trans h
theorem Box3.cells (h : Box3 w r a b c) : w.cell? ⟨r, 0, none⟩ = some a ∧ w.cell? ⟨r, 1, none⟩ = some b ∧ w.cell? ⟨r, 2, none⟩ = some c := by
  unfold Box3 at h
  refine ⟨?_, ?_, ?_⟩ <;> simp [World.cell?, h]
end

theorem frac_one (v : Nat) : fracN v 1 0 = v ∧ fracD v 1 0 = 1 := by
  have h1 : ntz 1 = 0 := ntz_of 1 0 0 (by simp)
  unfold fracN fracD fracE
  by_cases h : v = 0
  · simp [h]
  · obtain ⟨m, hm⟩ := ntz_spec v h
    have e1 : v / 2 ^ ntz v = 2 * m + 1 := Nat.div_eq_of_eq_mul_right (Nat.two_pow_pos _) hm
    rw [if_neg h, if_neg h, h1, e1]
    have h2 : ((0 : Int) + (ntz v : Nat) - (0 : Nat)).toNat = ntz v := by omega
    have h3 : (-((0 : Int) + (ntz v : Nat) - (0 : Nat))).toNat = 0 := by omega
    rw [h2, h3]
    refine ⟨?_, by simp⟩
    rw [Nat.mul_comm]; exact hm.symm

theorem val_one : val [1] = 1 := by simp [val]

/-- FromBits: the fraction and the exponent. -/
def fbF (b : Nat) : Nat := if b % 9223372036854775808 < 4503599627370496 then b % 4503599627370496 else 4503599627370496 + b % 4503599627370496
def fbE (b : Nat) : Nat := b % 9223372036854775808 / 4503599627370496 - 1
def fbN (b : Nat) : Nat := fracN (fbF b) 1 ((fbE b : Int) - 1074)
def fbD (b : Nat) : Nat := fracD (fbF b) 1 ((fbE b : Int) - 1074)
theorem fb_val (b K : Nat) (hK : K = 1074) : fbN b * 2 ^ K = FV (b % 9223372036854775808) * fbD b := by
  have h := frac_val (fbF b) 1 ((fbE b : Int) - 1074) (by omega) K (by omega)
  have e : ((K : Int) + ((fbE b : Int) - 1074)).toNat = fbE b := by omega
  rw [e, Nat.mul_one] at h
  unfold fbN fbD
  rw [h]
  have : FV (b % 9223372036854775808) = fbF b * 2 ^ fbE b := by
    unfold FV fbF fbE
    have hm : b % 9223372036854775808 % 4503599627370496 = b % 4503599627370496 := by omega
    by_cases hl : b % 9223372036854775808 < 4503599627370496
    · rw [if_pos hl, if_pos hl, Nat.div_eq_of_lt hl]; simp; omega
    · rw [if_neg hl, if_neg hl, hm]
  rw [this]; grind
theorem fbD_pos (b : Nat) : 0 < fbD b := fracD_pos _ _ _ (by omega)
theorem fbN_zero (b : Nat) : fbN b = 0 ↔ b % 9223372036854775808 = 0 := by
  obtain ⟨K, hK⟩ : ∃ K : Nat, K = 1074 := ⟨_, rfl⟩
  have h := fb_val b K hK
  have hd := fbD_pos b
  have hp := Nat.two_pow_pos K
  constructor
  · intro h0
    rw [h0, Nat.zero_mul] at h
    have h1 : FV (b % 9223372036854775808) = 0 := by
      rcases Nat.mul_eq_zero.1 h.symm with h2 | h2
      · exact h2
      · omega
    exact FV_inj (h1.trans FV_zero.symm)
  · intro h0
    rw [h0, FV_zero, Nat.zero_mul] at h
    rcases Nat.mul_eq_zero.1 h with h2 | h2
    · exact h2
    · omega
theorem fbF_lt (b : Nat) : fbF b < 9007199254740992 := by unfold fbF; split <;> omega

end Go.Proofs.Ytiadjcilfljdaaa
