/- Layer 5: plain words on a number's first bit and its 52 bits behind. -/
import Derived.Test.YtiadjcilfljdaaaDoorDigP
import Derived.Test.YtiadjcilfljdaaaDoorRatB
namespace Go.Proofs.YtiadjcilfljdaaaDoor
set_option linter.unusedVariables false
set_option linter.unusedSimpArgs false
open Go.RowKit Verge

/-- The 53 bits of a number, the first one 1; its power of 2. -/
def hxm (b : Nat) : Nat := fbF b * 2 ^ (53 - blen (fbF b))
def hxe (b : Nat) : Int := (fbE b : Int) - 1075 + blen (fbF b)
theorem blen_shl {o u : Nat} (h : o ≠ 0) : blen (o * 2 ^ u) = blen o + u := by
  have e : o * 2 ^ u / 2 ^ u = o := Nat.mul_div_cancel _ (Nat.two_pow_pos u)
  have := blen_div (o * 2 ^ u) u (by rw [e]; exact h)
  rw [e] at this
  omega
theorem fbF_blen (b : Nat) : blen (fbF b) ≤ 53 := (blen_lt _ _).2 (by have := fbF_lt b; omega)
theorem hxm_range {b : Nat} (h : fbF b ≠ 0) : 4503599627370496 ≤ hxm b ∧ hxm b < 9007199254740992 := by
  unfold hxm
  have h1 := fbF_blen b
  have h2 := blen_pos h
  have h3 : blen (fbF b * 2 ^ (53 - blen (fbF b))) = 53 := by rw [blen_shl h]; omega
  constructor
  · have := blen_le (n := fbF b * 2 ^ (53 - blen (fbF b))) (Nat.mul_ne_zero h (by have := Nat.two_pow_pos (53 - blen (fbF b)); omega))
    rw [h3] at this
    exact this
  · exact (blen_lt _ 53).1 (by omega)
theorem hx_doc {b : Nat} (h : fbF b ≠ 0) : fbN b ≠ 0 ∧ fbN b * 2 ^ 52 / 2 ^ (blen (fbN b) - 1) = hxm b ∧ ((blen (fbN b) - 1 : Nat) : Int) - ((blen (fbD b) - 1 : Nat) : Int) = hxe b := by
  have n1 : ntz 1 = 0 := ntz_of 1 0 0 (by simp)
  obtain ⟨m, hm⟩ := ntz_spec (fbF b) h
  have hF := fbF_blen b
  unfold hxm hxe fbN fbD fracN fracD fracE
  rw [if_neg h, if_neg h, n1]
  generalize ntz (fbF b) = t at *
  have ho : fbF b / 2 ^ t = 2 * m + 1 := by rw [hm]; exact Nat.mul_div_cancel_left _ (Nat.two_pow_pos t)
  have hb : blen (fbF b) = t + blen (2 * m + 1) := by
    have := blen_div (fbF b) t (by rw [ho]; omega)
    rw [ho] at this; exact this
  rw [ho]
  rw [hb] at hF ⊢
  generalize ho2 : 2 * m + 1 = o at *
  have h0 : o ≠ 0 := by omega
  have hp := blen_pos h0
  obtain ⟨E, hE⟩ : ∃ E : Int, (fbE b : Int) - 1074 + t - 0 = E := ⟨_, rfl⟩
  have hE' : ((fbE b : Int) - 1074 + (t : Int) - ((0 : Nat) : Int)) = E := hE
  rw [hE']
  obtain ⟨u, hu⟩ : ∃ u, E.toNat = u := ⟨_, rfl⟩
  obtain ⟨d, hd⟩ : ∃ u, (-E).toNat = u := ⟨_, rfl⟩
  rw [hu, hd]
  have hD : blen (1 / 2 ^ 0 * 2 ^ d) = d + 1 := by
    rw [show (1 : Nat) / 2 ^ 0 * 2 ^ d = 2 ^ d by simp]
    exact blen_of _ d (Nat.le_refl _) (Nat.pow_lt_pow_right (by omega) (by omega))
  rw [hD, blen_shl h0]
  refine ⟨Nat.mul_ne_zero h0 (by have := Nat.two_pow_pos u; omega), ?_, by omega⟩
  have e1 : o * 2 ^ u * 2 ^ 52 = o * 2 ^ (53 - blen o) * 2 ^ (blen o + u - 1) := by
    rw [Nat.mul_assoc, Nat.mul_assoc, ← Nat.pow_add, ← Nat.pow_add]
    congr 2; omega
  rw [e1, Nat.mul_div_cancel _ (Nat.two_pow_pos _), hm, Nat.mul_comm (2 ^ t), Nat.mul_assoc, ← Nat.pow_add]
  congr 2; omega
/-- The loop that lays the first bit. -/
theorem hx_loop {b i : Nat} (h : fbF b ≠ 0) (hi : i ≤ 53 - blen (fbF b)) : (fbF b * 2 ^ i < 4503599627370496 ↔ i < 53 - blen (fbF b)) ∧ fbF b * 2 ^ i < 9007199254740992 := by
  have hF := fbF_blen b
  have hb := blen_shl (u := i) h
  refine ⟨?_, ?_⟩
  · have := blen_lt (fbF b * 2 ^ i) 52
    rw [hb] at this
    have e : (2 : Nat) ^ 52 = 4503599627370496 := by decide
    rw [e] at this
    omega
  · have := (blen_lt (fbF b * 2 ^ i) 53).1 (by omega)
    have e : (2 : Nat) ^ 53 = 9007199254740992 := by decide
    rw [e] at this
    exact this
theorem hx_more {b i : Nat} : fbF b * 2 ^ i * 2 = fbF b * 2 ^ (i + 1) := by rw [Nat.pow_succ, Nat.mul_assoc]
/-- The text. -/
def hxtext (b : Nat) : List UInt8 :=
  (if 9223372036854775808 ≤ b then [45] else []) ++ [48, 120, 49] ++ (if hxm b = 4503599627370496 then [] else 46 :: hexs 13 (hxm b - 4503599627370496)) ++ 112 :: Lib.itoa (hxe b)
end Go.Proofs.YtiadjcilfljdaaaDoor
