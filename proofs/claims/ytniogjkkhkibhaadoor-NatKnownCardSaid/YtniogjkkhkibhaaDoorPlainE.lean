/- Plain arithmetic for quotients. -/
import Derived.Test.YtniogjkkhkibhaaDoorPlainD
namespace Verge
set_option linter.unusedVariables false
set_option linter.unusedSimpArgs false

def nquo (a b : Nat) : List Nat × List Nat × Int := if b = 0 then ([], [], 1) else if long a || long b then ([], [], 2) else (dig (a / b), dig (a % b), 0)
theorem nquo_zero (a : Nat) : nquo a 0 = ([], [], 1) := by simp [nquo]
theorem nquo_long {a b : Nat} (h0 : b ≠ 0) (h : (long a || long b) = true) : nquo a b = ([], [], 2) := by simp only [nquo, h, h0, if_true, if_false]
theorem nquo_ok {a b : Nat} (h0 : b ≠ 0) (h : (long a || long b) = false) : nquo a b = (dig (a / b), dig (a % b), 0) := by simp [nquo, h, h0]

theorem pos_of_wl {xs : List Nat} (h : 0 < wl xs) : val xs ≠ 0 := fun e => by have := (val_eq_zero_iff xs).1 e; omega

/-- The divisor, moved so that its top bit is set. -/
theorem top_shift {ys L : List Nat} {k s : Nat} (hy : W32 ys) (hk : wl ys = k + 1) (hs : blen (ys.getD k 0) + s = 32) (hL : W32 L) (hl : L.length = k + 2) (hv : val L = val ys * 2 ^ s) :
    val (L.take (k + 1)) = val ys * 2 ^ s ∧ 2147483648 ≤ (L.take (k + 1)).getD k 0 := by
  have hb := blen_words hy k hk
  have h0 : val ys ≠ 0 := pos_of_wl (by omega)
  have h1 := (blen_lt (val ys) _).1 (Nat.le_refl _)
  have h2 := blen_le h0
  have hbp := blen_pos h0
  have h3 : val L < 4294967296 ^ (k + 1) := by
    rw [hv, pow32, show 32 * (k + 1) = blen (val ys) + s by omega, Nat.pow_add]
    exact Nat.mul_lt_mul_of_pos_right h1 (Nat.pow_pos (by omega))
  have h4 : 2147483648 * 4294967296 ^ k ≤ val L := by
    rw [hv, pow32, show (2147483648 : Nat) = 2 ^ 31 by rfl, ← Nat.pow_add, show 31 + 32 * k = (blen (val ys) - 1) + s by omega, Nat.pow_add]
    exact Nat.mul_le_mul_right _ h2
  have e1 : val (L.take (k + 1)) = val L := by
    have hz : val (L.drop (k + 1)) = 0 := by rw [← val_div L hL]; exact Nat.div_eq_of_lt h3
    have := val_split L (k + 1) (by omega)
    rw [hz, Nat.mul_zero, Nat.add_zero] at this
    exact this.symm
  refine ⟨by rw [e1, hv], ?_⟩
  have h5 := val_take_succ L k
  have h6 := val_lt (hL.take k)
  rw [List.length_take, Nat.min_eq_left (by omega)] at h6
  rw [getD_take L (k + 1) k (by omega)]
  rw [← e1, h5] at h4
  rcases Nat.lt_or_ge (L.getD k 0) 2147483648 with hc | hc
  · exfalso
    have : 4294967296 ^ k * L.getD k 0 + 4294967296 ^ k ≤ 2147483648 * 4294967296 ^ k := by
      rw [← Nat.mul_succ, Nat.mul_comm]; exact Nat.mul_le_mul_right _ hc
    omega
  · exact hc

/-- The quotient's words, from the top. -/
def QInv (tot : Nat) (U Q V : List Nat) (p : Nat) : Prop := tot = val U + PW p * (val V * val (Q.drop p)) ∧ val (U.drop p) < val V

theorem quo_lt {U V : List Nat} {j : Nat} (hU : W32 U) (h : val (U.drop (j + 1)) < val V) : val (U.drop j) < val V * 4294967296 := by
  rw [val_drop]
  have := hU.getD j
  omega

theorem quo_step {tot : Nat} {U Q V D : List Nat} {j q : Nat} (hj : j < Q.length) (hjU : j ≤ U.length) (hI : QInv tot U Q V (j + 1)) (hq : q = val (U.drop j) / val V) (hD : val D = val (U.drop j) % val V)
    (hV : 0 < val V) : QInv tot (U.take j ++ D) (Q.set j q) V j := by
  obtain ⟨h1, h2⟩ := hI
  have hl : (U.take j).length = j := by rw [List.length_take]; omega
  refine ⟨?_, ?_⟩
  · rw [h1, val_append, hl, val_split U j hjU, val_drop (Q.set j q), getD_set_self _ _ _ hj, drop_set_gt _ _ _ _ (by omega)]
    have e : val (U.drop j) = val V * q + val D := by rw [hq, hD]; exact (Nat.div_add_mod _ _).symm
    rw [e]
    simp only [PW, Nat.pow_succ]
    generalize 4294967296 ^ j = P
    grind
  · have e2 : (U.take j ++ D).drop j = D := by
      rw [List.drop_append_of_le_length (by omega), List.drop_of_length_le (by omega), List.nil_append]
    rw [e2, hD]
    exact Nat.mod_lt _ hV

theorem quo_end {a b s : Nat} {U Q V : List Nat} (hb : 0 < b) (hV : val V = b * 2 ^ s) (hI : QInv (a * 2 ^ s) U Q V 0) : val Q = a / b ∧ val U / 2 ^ s = a % b ∧ val U < val V := by
  obtain ⟨h1, h2⟩ := hI
  rw [List.drop_zero, PW_zero, Nat.one_mul] at h1
  rw [List.drop_zero] at h2
  have hp : 0 < 2 ^ s := Nat.pow_pos (by omega)
  rw [hV] at h1 h2
  generalize 2 ^ s = P at *
  have e0 : b * P * val Q = P * (b * val Q) := by grind
  rw [e0] at h1
  have e1 : (val U) % P = 0 := by
    have : (a * P) % P = 0 := Nat.mul_mod_left _ _
    rw [h1, Nat.add_mul_mod_self_left] at this
    exact this
  obtain ⟨r, hr⟩ : ∃ r, val U = P * r := ⟨val U / P, by have := Nat.div_add_mod (val U) P; omega⟩
  have e2 : a = b * val Q + r := by
    rw [hr, ← Nat.mul_add, Nat.mul_comm a P] at h1
    have := Nat.eq_of_mul_eq_mul_left hp h1
    omega
  have e3 : r < b := by
    rw [hr, Nat.mul_comm b P] at h2
    exact Nat.lt_of_mul_lt_mul_left h2
  refine ⟨?_, ?_, by rw [hV]; exact h2⟩
  · rw [e2, Nat.mul_add_div hb, Nat.div_eq_of_lt e3, Nat.add_zero]
  · rw [hr, Nat.mul_div_cancel_left _ hp, e2, Nat.mul_add_mod, Nat.mod_eq_of_lt e3]

theorem quo_start {xs U V Q : List Nat} {s m K : Nat} (hx : W32 xs) (hs : s < 32) (hxl : wl xs = K + (m + 2)) (hU : W32 U) (hl : U.length = K + (m + 2) + 1) (hv : val U = val xs * 2 ^ s)
    (hV32 : W32 V) (hVl : V.length = m + 2) (hVt : 2147483648 ≤ V.getD (m + 1) 0) (hQ : Q.drop (K + 1) = []) : QInv (val xs * 2 ^ s) U Q V (K + 1) := by
  refine ⟨by rw [hQ, val_nil, Nat.mul_zero, Nat.mul_zero, Nat.add_zero, hv], ?_⟩
  rw [← val_div U hU]
  have h1 : val xs < 4294967296 ^ (K + (m + 2)) := by
    rw [← dig_length_le, ← wl_eq hx]; omega
  have h2 : 2 ^ s ≤ 2147483648 := by
    have := Nat.pow_le_pow_right (n := 2) (by omega) (show s ≤ 31 by omega)
    simpa using this
  have h3 : val V = val (V.take (m + 1)) + 4294967296 ^ (m + 1) * V.getD (m + 1) 0 := by
    rw [← val_take_succ, List.take_of_length_le (by omega)]
  rw [Nat.div_lt_iff_lt_mul (Nat.pow_pos (by omega)), hv]
  have h4 : val xs * 2 ^ s < 4294967296 ^ (K + (m + 2)) * 2147483648 := by
    have := Nat.mul_lt_mul_of_pos_right h1 (show 0 < 2 ^ s from Nat.pow_pos (by omega))
    have := Nat.mul_le_mul_left (4294967296 ^ (K + (m + 2))) h2
    omega
  have h5 : 4294967296 ^ (K + (m + 2)) * 2147483648 ≤ val V * 4294967296 ^ (K + 1) := by
    rw [show K + (m + 2) = (m + 1) + (K + 1) by omega, Nat.pow_add, Nat.mul_assoc, Nat.mul_comm (4294967296 ^ (K + 1)), ← Nat.mul_assoc]
    refine Nat.mul_le_mul_right _ ?_
    have := Nat.mul_le_mul_left (4294967296 ^ (m + 1)) hVt
    omega
  omega

theorem trial_of {U V : List Nat} {j m K : Nat} (hU : W32 U) (hV : W32 V) (hVl : V.length = m + 2) (hVt : 2147483648 ≤ V.getD (m + 1) 0) (hl : U.length = K + (m + 2) + 1) (hj : j ≤ K)
    (h : val (U.drop (j + 1)) < val V) : Trial (U.drop j) V m ((U.drop j).getD (m + 2) 0) ((U.drop j).getD (m + 1) 0) ((U.drop j).getD m 0) (V.getD (m + 1) 0) (V.getD m 0) :=
  ⟨hU.drop j, hV, hVl, by rw [List.length_drop]; omega, quo_lt hU h, rfl, rfl, rfl, rfl, rfl, hVt⟩

theorem rest_take {U V : List Nat} {m : Nat} (hU : W32 U) (hV : W32 V) (hVl : V.length = m + 2) (hl : m + 2 ≤ U.length) (h : val U < val V) : val (U.take (m + 2)) = val U := by
  have h1 := val_lt hV
  rw [hVl] at h1
  have h2 := val_split U (m + 2) hl
  have h3 : val (U.drop (m + 2)) = 0 := by rw [← val_div U hU]; exact Nat.div_eq_of_lt (Nat.lt_trans h h1)
  rw [h3, Nat.mul_zero, Nat.add_zero] at h2
  exact h2.symm

end Verge
