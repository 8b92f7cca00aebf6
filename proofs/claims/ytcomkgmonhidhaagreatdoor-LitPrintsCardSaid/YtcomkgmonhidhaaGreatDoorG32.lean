/- Contracts of nat: down, Shr. -/
import Derived.Test.YtcomkgmonhidhaaGreatDoorG24
import Derived.Deep.CutBlock
import Derived.Test.YtcomkgmonhidhaaGreatDoorG19
import Derived.Test.YtcomkgmonhidhaaGreatDoorG28
import Derived.Test.YtcomkgmonhidhaaGreatDoorG16
import Derived.Test.YtcomkgmonhidhaaGreatDoorG31
import Derived.Test.YtcomkgmonhidhaaGreatDoorG20
namespace Go.Proofs.YtcomkgmonhidhaaGreatDoor
set_option linter.unusedVariables false
set_option linter.unusedSimpArgs false
open Go.RowKit Verge

/-- What down answers. -/
def DownPost (w : World) (v e : Nat) (en : Ending) (w' : World) : Prop :=
  ∃ g A1, w.heap.size ≤ g ∧ en = .returned (.tuple #[.slice A1 (dig (v / 2 ^ e)).length (dig (v / 2 ^ e)).length, .bool (decide (v % 2 ^ e ≠ 0))]) ∧ Own w' g A1 (dig (v / 2 ^ e)) ∧ Below w.heap.size w w'

end Go.Proofs.YtcomkgmonhidhaaGreatDoor

/- Plain facts: a quotient cut with a mark for what is lost is rounded as the ratio itself. -/
namespace Go.Proofs.YtcomkgmonhidhaaGreatDoor
set_option linter.unusedVariables false
set_option linter.unusedSimpArgs false
open Go.RowKit Verge

theorem or1 (g w : Nat) (h : w < 4) : (4 * g + w) ||| 1 = 4 * g + (w ||| 1) := by
  have e : 4 * g + w = 2 ^ 2 * g + w := by omega
  have e2 : 2 ^ 2 * g + w = 2 ^ 2 * g ||| w := Nat.two_pow_add_eq_or_of_lt (i := 2) (by omega) g
  have hw : w ||| 1 < 4 := by
    have : w = 0 ∨ w = 1 ∨ w = 2 ∨ w = 3 := by omega
    rcases this with rfl | rfl | rfl | rfl <;> decide
  rw [e, e2, Nat.or_assoc, ← Nat.two_pow_add_eq_or_of_lt (i := 2) (by omega) g]
def vOf (W : Nat) (L : Bool) : Nat := if L then W ||| 1 else W
theorem quarter (M Q g r W : Nat) (L : Bool) (hQ : 0 < Q) (hg : M / Q = g) (hr : M % Q = r) (hW : 4 * M / Q = W) (hL : L = decide (4 * M % Q ≠ 0)) :
    vOf W L / 4 = g ∧ (vOf W L % 4 ≠ 0 ↔ r ≠ 0) ∧ ((vOf W L % 4 = 3 ∨ vOf W L % 4 = 2 ∧ g % 2 = 1) ↔ (Q < 2 * r ∨ Q = 2 * r ∧ g % 2 = 1)) := by
  have hrQ : r < Q := by rw [← hr]; exact Nat.mod_lt _ hQ
  have hM : M = Q * g + r := by rw [← hg, ← hr]; exact (Nat.div_add_mod M Q).symm
  obtain ⟨w, t, hwt, ht, hw4⟩ : ∃ w t, 4 * r = w * Q + t ∧ t < Q ∧ w < 4 := by
    refine ⟨4 * r / Q, 4 * r % Q, by have := Nat.div_add_mod (4 * r) Q; rw [Nat.mul_comm Q] at this; exact this.symm, Nat.mod_lt _ hQ, ?_⟩
    rw [Nat.div_lt_iff_lt_mul hQ]; omega
  have h4 : 4 * M = t + (4 * g + w) * Q := by
    rw [hM, Nat.mul_add, hwt, Nat.add_mul]
    have : 4 * (Q * g) = 4 * g * Q := by ac_rfl
    omega
  have hWe : W = 4 * g + w := by
    rw [← hW, h4, Nat.add_mul_div_right _ _ hQ, Nat.div_eq_of_lt ht, Nat.zero_add]
  have hLe : 4 * M % Q = t := by rw [h4, Nat.add_mul_mod_self_right, Nat.mod_eq_of_lt ht]
  rw [hLe] at hL
  have hV : vOf W L = 4 * g + (if t ≠ 0 then w ||| 1 else w) := by
    unfold vOf
    rw [hL, hWe]
    by_cases c : t = 0
    · simp [c]
    · simp only [ne_eq, c, not_false_eq_true, decide_true, if_true]
      exact or1 g w hw4
  obtain ⟨u, hu⟩ : ∃ u, (if t ≠ 0 then w ||| 1 else w) = u := ⟨_, rfl⟩
  rw [hu] at hV
  have hu4 : u < 4 ∧ (t = 0 → u = w) ∧ (t ≠ 0 → (w ≤ 1 → u = 1) ∧ (2 ≤ w → u = 3)) := by
    rw [← hu]
    by_cases c : t = 0
    · simp [c]; omega
    · simp only [ne_eq, c, not_false_eq_true, if_true]
      have : w = 0 ∨ w = 1 ∨ w = 2 ∨ w = 3 := by omega
      rcases this with rfl | rfl | rfl | rfl <;> simp
  obtain ⟨u1, u2, u3⟩ := hu4
  rw [hV]
  have hd : (4 * g + u) / 4 = g := by omega
  have hm : (4 * g + u) % 4 = u := by omega
  rw [hd, hm]
  clear hV hu hL hLe hWe h4 hW hM hg hr hd hm
  have hcase : w = 0 ∨ w = 1 ∨ w = 2 ∨ w = 3 := by omega
  refine ⟨rfl, ?_, ?_⟩
  · rcases hcase with rfl | rfl | rfl | rfl <;> omega
  · rcases hcase with rfl | rfl | rfl | rfl <;> omega

/-- The exponent of the last place. -/
def ofX (b e : Int) : Int := max (b - 53 + e) (-1074)
/-- What is added to the place that is kept. -/
def incV (d : Int) (s : Bool) (V : Nat) : Nat :=
  if d = 1 ∨ d = -1 then (if V % 4 ≠ 0 ∧ (decide (d = -1) = s) then 1 else 0) else (if V % 4 = 3 ∨ V % 4 = 2 ∧ V / 4 % 2 = 1 then 1 else 0)
/-- The rung that of answers. -/
def ofR (d : Int) (s : Bool) (G : Nat) (e : Int) (more : Bool) : Nat :=
  if 1023 < (blen G : Int) - 1 + e then (if d = 1 ∧ s = true ∨ d = -1 ∧ s = false then 9218868437227405311 else 9218868437227405312)
  else (ofX (blen G) e + 1074).toNat * 4503599627370496 + (vOf (G / 2 ^ (ofX (blen G) e - 2 - e).toNat) (decide (G % 2 ^ (ofX (blen G) e - 2 - e).toNat ≠ 0) || more) / 4 + incV d s (vOf (G / 2 ^ (ofX (blen G) e - 2 - e).toNat) (decide (G % 2 ^ (ofX (blen G) e - 2 - e).toNat ≠ 0) || more)))

section
variable {n m K : Nat} (hn : 0 < n) (hm : 0 < m) (hK : K = 1074)
include hn hm hK
/-- A quotient with what is left of it, rounded, is the ratio, rounded. -/
theorem ofR_rng (d : Int) (s : Bool) (a b G : Nat) (e : Int) (more : Bool) (he : e = (b : Int) - a) (hG : n * 2 ^ a / (m * 2 ^ b) = G) (hmore : more = decide (n * 2 ^ a % (m * 2 ^ b) ≠ 0)) (hG0 : G ≠ 0) (hcut : 1 ≤ ofX (blen G) e - 2 - e) :
    ofR d s G e more = rng d s (n * 2 ^ K) m := by
  have hQ : 0 < m * 2 ^ b := Nat.mul_pos hm (Nat.two_pow_pos _)
  have hF : rF n m = (blen G : Int) - 1 + e := by
    obtain ⟨J, hJ, hJ1⟩ : ∃ J : Nat, a ≤ J ∧ (-(rF n m)).toNat ≤ J := ⟨a + (-(rF n m)).toNat, by omega, by omega⟩
    obtain ⟨t, ht⟩ : ∃ t : Nat, (t : Int) = rF n m + J := ⟨(rF n m + J).toNat, by omega⟩
    obtain ⟨s1, s2⟩ := rF_spec hn hm J t ht
    obtain ⟨i, hi⟩ : ∃ i, J = a + i := ⟨J - a, by omega⟩
    have g1 : G * (m * 2 ^ b) ≤ n * 2 ^ a := by rw [← hG]; exact Nat.div_mul_le_self _ _
    have g2 : n * 2 ^ a < (G + 1) * (m * 2 ^ b) := (Nat.div_lt_iff_lt_mul hQ).1 (by rw [hG]; omega)
    have p1 : G < 2 ^ blen G := (blen_lt _ _).1 (Nat.le_refl _)
    have p2 : 2 ^ (blen G - 1) ≤ G := blen_le hG0
    have p3 : 0 < blen G := by
      rcases Nat.eq_zero_or_pos (blen G) with h | h
      · rw [h] at p1; omega
      · exact h
    have k1 : m * 2 ^ t < m * 2 ^ (b + blen G + i) := by
      refine Nat.lt_of_le_of_lt s1 ?_
      rw [hi, Nat.pow_add, ← Nat.mul_assoc]
      calc n * 2 ^ a * 2 ^ i < (G + 1) * (m * 2 ^ b) * 2 ^ i := Nat.mul_lt_mul_of_pos_right g2 (Nat.two_pow_pos _)
        _ ≤ 2 ^ blen G * (m * 2 ^ b) * 2 ^ i := Nat.mul_le_mul_right _ (Nat.mul_le_mul_right _ p1)
        _ = m * 2 ^ (b + blen G + i) := by rw [Nat.pow_add, Nat.pow_add]; ac_rfl
    have k2 : m * 2 ^ (b + (blen G - 1) + i) < m * 2 ^ (t + 1) := by
      refine Nat.lt_of_le_of_lt ?_ s2
      rw [hi, Nat.pow_add 2 a i, ← Nat.mul_assoc]
      calc m * 2 ^ (b + (blen G - 1) + i) = 2 ^ (blen G - 1) * (m * 2 ^ b) * 2 ^ i := by rw [Nat.pow_add, Nat.pow_add]; ac_rfl
        _ ≤ G * (m * 2 ^ b) * 2 ^ i := Nat.mul_le_mul_right _ (Nat.mul_le_mul_right _ p2)
        _ ≤ n * 2 ^ a * 2 ^ i := Nat.mul_le_mul_right _ g1
    have k3 := (Nat.pow_lt_pow_iff_right (by omega : 1 < 2)).1 (Nat.lt_of_mul_lt_mul_left k1)
    have k4 := (Nat.pow_lt_pow_iff_right (by omega : 1 < 2)).1 (Nat.lt_of_mul_lt_mul_left k2)
    omega
  unfold ofR
  rw [← hF]
  by_cases ho : 1023 < rF n m
  · rw [if_pos ho, rng_over hn hm hK d s ho]
    cases s <;> by_cases h1 : d = 1 <;> by_cases h2 : d = -1 <;> simp [h1, h2] <;> omega
  · rw [if_neg ho]
    have hX : ofX (blen G) e = (rK n m : Int) - 1074 := by
      unfold ofX rK; omega
    obtain ⟨x, y, hxy, h0⟩ : ∃ x y : Nat, (rK n m : Int) - 1074 = (y : Int) - x ∧ (x = 0 ∨ y = 0) := ⟨(1074 - (rK n m : Int)).toNat, ((rK n m : Int) - 1074).toNat, by omega, by omega⟩
    obtain ⟨c, hc⟩ : ∃ c : Nat, ofX (blen G) e - 2 - e = (c : Int) := ⟨(ofX (blen G) e - 2 - e).toNat, by omega⟩
    obtain ⟨_, _, _, hrng⟩ := rng_in hn hm hK d s (by omega) x y hxy h0 _ _ _ rfl rfl rfl
    rw [hrng, hc, hX, Int.toNat_natCast, show ((rK n m : Int) - 1074 + 1074).toNat = rK n m by omega]
    have hsum : b + c + (x + 2) = y + a := by omega
    have hcom : m * 2 ^ y * 2 ^ a = m * 2 ^ b * 2 ^ c * 2 ^ (x + 2) := by
      rw [Nat.mul_assoc m, ← Nat.pow_add, Nat.mul_assoc (m * 2 ^ b), ← Nat.pow_add, Nat.mul_assoc m, ← Nat.pow_add]
      congr 2
      omega
    have hnum : 4 * (n * 2 ^ x) * 2 ^ a = n * 2 ^ a * 2 ^ (x + 2) := by
      rw [Nat.pow_add]; have : (2 : Nat) ^ 2 = 4 := rfl
      rw [this]; ac_rfl
    have hW : 4 * (n * 2 ^ x) / (m * 2 ^ y) = G / 2 ^ c := by
      rw [← Nat.mul_div_mul_right _ _ (Nat.two_pow_pos a), hnum, hcom, Nat.mul_div_mul_right _ _ (Nat.two_pow_pos _), ← hG, Nat.div_div_eq_div_mul]
    have hR : 4 * (n * 2 ^ x) % (m * 2 ^ y) * 2 ^ a = (n * 2 ^ a % (m * 2 ^ b * 2 ^ c)) * 2 ^ (x + 2) := by
      rw [← Nat.mul_mod_mul_right, hnum, hcom, Nat.mul_mod_mul_right]
    have hR2 : n * 2 ^ a % (m * 2 ^ b * 2 ^ c) = n * 2 ^ a % (m * 2 ^ b) + m * 2 ^ b * (G % 2 ^ c) := by
      rw [Nat.mod_mul, hG]
    have hL : (decide (G % 2 ^ c ≠ 0) || more) = decide (4 * (n * 2 ^ x) % (m * 2 ^ y) ≠ 0) := by
      rw [hmore, Bool.eq_iff_iff]
      simp only [Bool.or_eq_true, decide_eq_true_eq, ne_eq]
      constructor
      · intro h hz
        rw [hz, Nat.zero_mul] at hR
        have h3 : n * 2 ^ a % (m * 2 ^ b * 2 ^ c) = 0 := by
          rcases Nat.mul_eq_zero.1 hR.symm with h | h
          · exact h
          · exact absurd h (Nat.ne_of_gt (Nat.two_pow_pos _))
        rw [h3] at hR2
        rcases h with h | h
        · have : 0 < m * 2 ^ b * (G % 2 ^ c) := Nat.mul_pos hQ (Nat.pos_of_ne_zero h)
          omega
        · omega
      · intro h
        refine Classical.byContradiction fun hno => ?_
        have hno' : G % 2 ^ c = 0 ∧ n * 2 ^ a % (m * 2 ^ b) = 0 := by
          constructor
          · exact Classical.byContradiction fun q => hno (.inl q)
          · exact Classical.byContradiction fun q => hno (.inr q)
        rw [hno'.1, hno'.2, Nat.mul_zero] at hR2
        rw [hR2, Nat.zero_add, Nat.zero_mul] at hR
        rcases Nat.mul_eq_zero.1 hR with q | q
        · exact h q
        · exact absurd q (Nat.ne_of_gt (Nat.two_pow_pos _))
    rw [hL]
    obtain ⟨q1, q2, q3⟩ := quarter (n * 2 ^ x) (m * 2 ^ y) _ _ (G / 2 ^ c) _ (Nat.mul_pos hm (Nat.two_pow_pos _)) rfl rfl hW rfl
    generalize vOf (G / 2 ^ c) (decide (4 * (n * 2 ^ x) % (m * 2 ^ y) ≠ 0)) = V at *
    rw [q1]
    congr 1
    congr 1
    unfold incV
    rw [q1]
    by_cases h1 : d = 1 ∨ d = -1
    · rw [if_pos h1]
      by_cases hr : n * 2 ^ x % (m * 2 ^ y) = 0
      · have hv : ¬ V % 4 ≠ 0 := fun h => q2.1 h hr
        rw [if_neg (fun h => hv h.1), if_neg]
        rintro (h | h)
        · exact h.2 hr
        · omega
      · have hv : V % 4 ≠ 0 := q2.2 hr
        rcases h1 with rfl | rfl
        · cases s
          · rw [if_pos ⟨hv, by decide⟩, if_pos (.inl ⟨.inl ⟨rfl, rfl⟩, hr⟩)]
          · rw [if_neg (by simp), if_neg (by simp)]
        · cases s
          · rw [if_neg (by simp), if_neg (by simp)]
          · rw [if_pos ⟨hv, by decide⟩, if_pos (.inl ⟨.inr ⟨rfl, rfl⟩, hr⟩)]
    · rw [if_neg h1]
      by_cases hv : V % 4 = 3 ∨ V % 4 = 2 ∧ n * 2 ^ x / (m * 2 ^ y) % 2 = 1
      · have hv2 : (m * 2 ^ y < 2 * (n * 2 ^ x % (m * 2 ^ y)) ∨ m * 2 ^ y = 2 * (n * 2 ^ x % (m * 2 ^ y)) ∧ n * 2 ^ x / (m * 2 ^ y) % 2 = 1) := q3.1 hv
        rw [if_pos hv, if_pos (.inr ⟨by omega, hv2⟩)]
      · rw [if_neg hv, if_neg]
        rintro (h | h)
        · omega
        · refine hv (q3.2 ?_)
          rcases h.2 with h | h
          · exact .inl h
          · exact .inr ⟨by omega, h.2⟩
end
end Go.Proofs.YtcomkgmonhidhaaGreatDoor

/- Layer 3: round.Ratio's quotients, plain. -/
namespace Go.Proofs.YtcomkgmonhidhaaGreatDoor
set_option linter.unusedVariables false
set_option linter.unusedSimpArgs false
open Go.RowKit Verge

section
variable {N D : Nat} (hN : 0 < N) (hD : 0 < D)
include hN hD
theorem quo_bits (k : Nat) (h : 57 + blen D ≤ blen N + k) : 57 ≤ blen (N * 2 ^ k / D) ∧ N * 2 ^ k / D ≠ 0 := by
  have h1 := blen_le (show N ≠ 0 by omega)
  have h2 := (blen_lt D _).1 (Nat.le_refl _)
  have h3 := blen_pos (show N ≠ 0 by omega)
  have hge : 2 ^ 56 ≤ N * 2 ^ k / D := by
    rw [Nat.le_div_iff_mul_le hD]
    calc 2 ^ 56 * D ≤ 2 ^ 56 * 2 ^ blen D := Nat.mul_le_mul_left _ (Nat.le_of_lt h2)
      _ = 2 ^ (56 + blen D) := (Nat.pow_add _ _ _).symm
      _ ≤ 2 ^ (blen N - 1 + k) := Nat.pow_le_pow_right (by omega) (by omega)
      _ = 2 ^ (blen N - 1) * 2 ^ k := Nat.pow_add _ _ _
      _ ≤ N * 2 ^ k := Nat.mul_le_mul_right _ h1
  constructor
  · refine Classical.byContradiction fun hc => ?_
    have : N * 2 ^ k / D < 2 ^ 56 := (blen_lt _ _).1 (by omega)
    omega
  · intro h0
    rw [h0] at hge
    have : 0 < 2 ^ 56 := Nat.two_pow_pos _
    omega
/-- The quotient of N 2^k by D, rounded at K - k, is the ratio N 2^K by D, rounded. -/
theorem quo_rng (d : Int) (s : Bool) (k J : Nat) (K : Int) (hJ : J = 1074) (h : 57 + blen D ≤ blen N + k) :
    ofR d s (N * 2 ^ k / D) (K - k) (decide (N * 2 ^ k % D ≠ 0)) = rng d s (N * 2 ^ K.toNat * 2 ^ J) (D * 2 ^ (-K).toNat) ∧ 1 ≤ ofX (blen (N * 2 ^ k / D)) (K - k) - 2 - (K - k) := by
  obtain ⟨h1, h2⟩ := quo_bits hN hD k h
  have hc : 1 ≤ ofX (blen (N * 2 ^ k / D)) (K - k) - 2 - (K - k) := by unfold ofX; omega
  refine ⟨?_, hc⟩
  have e1 : N * 2 ^ K.toNat * 2 ^ (k + (-K).toNat) = N * 2 ^ k * 2 ^ (K.toNat + (-K).toNat) := by
    rw [Nat.pow_add 2 k, Nat.pow_add 2 K.toNat]; ac_rfl
  have e2 : D * 2 ^ (-K).toNat * 2 ^ K.toNat = D * 2 ^ (K.toNat + (-K).toNat) := by
    rw [Nat.pow_add]; ac_rfl
  refine ofR_rng (n := N * 2 ^ K.toNat) (m := D * 2 ^ (-K).toNat) (Nat.mul_pos hN (Nat.two_pow_pos _)) (Nat.mul_pos hD (Nat.two_pow_pos _)) hJ d s (k + (-K).toNat) K.toNat _ _ _ (by omega) ?_ ?_ h2 hc
  · rw [e1, e2, Nat.mul_div_mul_right _ _ (Nat.two_pow_pos _)]
  · rw [e1, e2, Nat.mul_mod_mul_right]
    have hp := Nat.two_pow_pos (K.toNat + (-K).toNat)
    rw [decide_eq_decide]
    constructor
    · intro hne hz
      rcases Nat.mul_eq_zero.1 hz with q | q
      · exact hne q
      · omega
    · intro hne hz
      exact hne (by rw [hz, Nat.zero_mul])
/-- What is far below the least number. -/
theorem tiny_rng (d : Int) (s : Bool) (J : Nat) (K : Int) (hJ : J = 1074) (h : (blen N : Int) - blen D + K < -1100) :
    ofR d s 1 (-1200) false = rng d s (N * 2 ^ K.toNat * 2 ^ J) (D * 2 ^ (-K).toNat) := by
  have h1 := (blen_lt N _).1 (Nat.le_refl _)
  have h2 := blen_le (show D ≠ 0 by omega)
  have h3 := blen_pos (show D ≠ 0 by omega)
  obtain ⟨n, hn⟩ : ∃ n, N * 2 ^ K.toNat = n := ⟨_, rfl⟩
  obtain ⟨m, hm⟩ : ∃ m, D * 2 ^ (-K).toNat = m := ⟨_, rfl⟩
  have hn0 : 0 < n := by rw [← hn]; exact Nat.mul_pos hN (Nat.two_pow_pos _)
  have hm0 : 0 < m := by rw [← hm]; exact Nat.mul_pos hD (Nat.two_pow_pos _)
  obtain ⟨z, hz⟩ : ∃ z, z = 1080 := ⟨_, rfl⟩
  have hlt : n * 2 ^ z < m := by
    rw [← hn, ← hm]
    calc N * 2 ^ K.toNat * 2 ^ z < 2 ^ blen N * 2 ^ K.toNat * 2 ^ z := Nat.mul_lt_mul_of_pos_right (Nat.mul_lt_mul_of_pos_right h1 (Nat.two_pow_pos _)) (Nat.two_pow_pos _)
      _ = 2 ^ (blen N + K.toNat + z) := by rw [← Nat.pow_add, ← Nat.pow_add]
      _ ≤ 2 ^ (blen D - 1 + (-K).toNat) := Nat.pow_le_pow_right (by omega) (by omega)
      _ = 2 ^ (blen D - 1) * 2 ^ (-K).toNat := Nat.pow_add _ _ _
      _ ≤ D * 2 ^ (-K).toNat := Nat.mul_le_mul_right _ h2
  rw [hn, hm]
  have hF : rF n m ≤ -1075 := by
    obtain ⟨t, ht⟩ : ∃ t : Nat, (t : Int) = rF n m + ((z + (-(rF n m)).toNat : Nat) : Int) := ⟨(rF n m + ((z + (-(rF n m)).toNat : Nat) : Int)).toNat, by omega⟩
    obtain ⟨s1, s2⟩ := rF_spec hn0 hm0 (z + (-(rF n m)).toNat) t ht
    have : m * 2 ^ t < m * 2 ^ (-(rF n m)).toNat := by
      refine Nat.lt_of_le_of_lt s1 ?_
      rw [Nat.pow_add, ← Nat.mul_assoc]
      exact Nat.mul_lt_mul_of_pos_right hlt (Nat.two_pow_pos _)
    have := (Nat.pow_lt_pow_iff_right (by omega : 1 < 2)).1 (Nat.lt_of_mul_lt_mul_left this)
    omega
  have hk : rK n m = 0 := by unfold rK; omega
  have hJz : n * 2 ^ J * 2 < m := by
    refine Nat.lt_of_le_of_lt ?_ hlt
    rw [Nat.mul_assoc, ← Nat.pow_succ]
    exact Nat.mul_le_mul_left _ (Nat.pow_le_pow_right (by omega) (by omega))
  have hpos : 0 < n * 2 ^ J := Nat.mul_pos hn0 (Nat.two_pow_pos _)
  obtain ⟨_, _, _, hrng⟩ := rng_in hn0 hm0 hJ d s (by omega) J 0 (by rw [hk, hJ]; omega) (.inr rfl) _ _ _ rfl rfl rfl
  rw [hrng, hk, Nat.pow_zero, Nat.mul_one, Nat.div_eq_of_lt (by omega), Nat.mod_eq_of_lt (by omega)]
  have hb1 : blen 1 = 1 := by decide
  have hX : ofX (blen 1) (-1200) = -1074 := by rw [hb1]; decide
  unfold ofR
  rw [if_neg (by rw [hb1]; omega), hX, show ((-1074 : Int) - 2 - -1200).toNat = 124 by decide]
  have hV : vOf (1 / 2 ^ 124) (decide (1 % 2 ^ 124 ≠ 0) || false) = 1 := by decide
  rw [hV, show ((-1074 : Int) + 1074).toNat = 0 by decide]
  congr 1
  congr 1
  unfold incV
  generalize n * 2 ^ J = y at *
  by_cases hd : d = 1 ∨ d = -1
  · rw [if_pos hd]
    rcases hd with rfl | rfl
    · cases s
      · rw [if_pos ⟨by decide, by decide⟩, if_pos (.inl ⟨.inl ⟨rfl, rfl⟩, by omega⟩)]
      · rw [if_neg (by simp), if_neg (by simp)]
    · cases s
      · rw [if_neg (by simp), if_neg (by simp)]
      · rw [if_pos ⟨by decide, by decide⟩, if_pos (.inl ⟨.inr ⟨rfl, rfl⟩, by omega⟩)]
  · rw [if_neg hd, if_neg (by omega), if_neg (by omega)]
end
end Go.Proofs.YtcomkgmonhidhaaGreatDoor

/- Layer 3, the program: math.Ldexp of whole numbers, down to the least numbers too; what stands in the place of something too great, in any direction. -/
namespace Go.Proofs.YtcomkgmonhidhaaGreatDoor
set_option linter.unusedVariables false
set_option linter.unusedSimpArgs false
open Go.RowKit Verge

theorem and2047 (m : Nat) (hm : m ≤ 1000000) : Go.bits .and .i64 (m : Int) 2047 = ((m % 2048 : Nat) : Int) := by
  have h127 : (BitVec.ofInt 64 2047).toNat = 2 ^ 11 - 1 := by decide
  have key : (BitVec.ofInt 64 (m : Int) &&& BitVec.ofInt 64 2047).toNat = ((m : Int) % ((2 ^ 64 : Nat) : Int)).toNat % 2 ^ 11 := by
    rw [BitVec.toNat_and, BitVec.toNat_ofInt, h127, Nat.and_two_pow_sub_one_eq_mod]
  show IntKind.i64.wrap ((BitVec.ofInt 64 (m : Int) &&& BitVec.ofInt 64 2047).toNat : Nat) = ((m % 2048 : Nat) : Int)
  rw [key, IntKind.wrap_i64]
  omega
theorem norm_gen (F : Nat) (h : 4503599627370496 ≤ F) (h2 : F < 9218868437227405312) (w : World) : Calls Tryz.prog 86 #[.float .f64 F] w fun e w' => e = .returned (.tuple #[.float .f64 F, .int .i64 0]) ∧ w = w' := by
  have HA := Lib.hid (fun W => abs_any F (by omega) W)
  rw [show fabs F = F by unfold fabs; omega] at HA
  have o1 : (FloatKind.f64.format.order F 4503599627370496 == some .lt) = false := by
    refine (f_lt (by omega) (by omega)).trans (decide_eq_false ?_)
    rintro ⟨_, _, h⟩
    revert h; unfold FK; split <;> (try split) <;> omega
  clear h h2
  go_enter Tryz.func86, Tryz.ntmps86
  go_wp2_with fail
  refine (HA.out _).mono ?_
  rintro en w1 ⟨rfl, rfl⟩
  go_wp2
  go_ret2
  exact ⟨rfl, rfl⟩
/-- The pattern of a whole number below 2^52. -/
def ilow (S : Nat) : Nat := (S.log2 + 1023) * 4503599627370496 + (S * 2 ^ (52 - S.log2) - 4503599627370496)
def plow (S : Nat) : Nat := (S.log2 + 2) * 4503599627370496 + (S * 2 ^ (52 - S.log2) - 4503599627370496)
theorem low_spec {S : Nat} (h0 : S ≠ 0) (h : S < 4503599627370496) : S.log2 ≤ 51 ∧ 4503599627370496 ≤ S * 2 ^ (52 - S.log2) ∧ S * 2 ^ (52 - S.log2) < 9007199254740992 := by
  have h1 : S.log2 < 52 := (Nat.log2_lt h0).2 h
  have h2 : 2 ^ S.log2 ≤ S := Nat.log2_self_le h0
  have h3 : S < 2 ^ (S.log2 + 1) := Nat.lt_log2_self
  have e : 2 ^ S.log2 * 2 ^ (52 - S.log2) = 4503599627370496 := by rw [← Nat.pow_add, show S.log2 + (52 - S.log2) = 52 by omega]
  have e2 : 2 ^ (S.log2 + 1) * 2 ^ (52 - S.log2) = 9007199254740992 := by rw [← Nat.pow_add, show S.log2 + 1 + (52 - S.log2) = 53 by omega]
  refine ⟨by omega, ?_, ?_⟩
  · rw [← e]; exact Nat.mul_le_mul_right _ h2
  · rw [← e2]; exact Nat.mul_lt_mul_of_pos_right h3 (Nat.two_pow_pos _)
theorem int_low {S : Nat} (h0 : S ≠ 0) (h : S < 4503599627370496) : FloatKind.f64.nearest (S : Int) = ilow S := by
  obtain ⟨l1, l2, l3⟩ := low_spec h0 h
  show Ieee.double.nearest (decide ((S : Int) < 0)) (S : Int).natAbs 0 = _
  rw [decide_eq_false (by omega), Int.natAbs_natCast, nearest_any _ _ _ 0 (by omega)]
  obtain ⟨K, hK⟩ : ∃ K : Nat, K = 1074 := ⟨_, rfl⟩
  rw [show ((0 : Int) + 1074 + ((0 : Nat) : Int)).toNat = K by omega]
  have hv : S * 2 ^ K = FV (ilow S) := by
    have := FV_scale (S.log2 + 1022) (S * 2 ^ (52 - S.log2)) l2 l3
    have e : ilow S = (S.log2 + 1022) * 4503599627370496 + S * 2 ^ (52 - S.log2) := by unfold ilow; omega
    rw [e, this, Nat.mul_assoc, ← Nat.pow_add, show 52 - S.log2 + (S.log2 + 1022) = K by omega]
  rw [hv]
  have := rngN_FV (ilow S)
  rw [Nat.pow_zero, this, Nat.min_eq_left (by unfold ilow; omega)]
  rfl
theorem mul_low {S : Nat} (h0 : S ≠ 0) (h : S < 4503599627370496) : Ieee.double.mul 4368491638549381120 (plow S) = some S := by
  obtain ⟨l1, l2, l3⟩ := low_spec h0 h
  have hp : plow S < 9218868437227405312 := by unfold plow; omega
  obtain ⟨k, m, e, hm⟩ := read_num (x := plow S) (by omega) (by omega)
  unfold Ieee.Format.mul
  have e2 : Ieee.double.read 4368491638549381120 = .number false 4503599627370496 (-105) := rfl
  rw [e, e2]
  show some (Ieee.double.nearest (false ^^ decide (9223372036854775808 ≤ plow S)) (4503599627370496 * m) (-105 + (-1074 + (k : Int)))) = _
  rw [decide_eq_false (by omega), Bool.xor_false, nearest_any _ _ _ 105 (by omega)]
  rw [show (-105 + (-1074 + (k : Int)) + 1074 + ((105 : Nat) : Int)).toNat = k by omega, Nat.mul_assoc, hm, Nat.mod_eq_of_lt (by omega)]
  have hv : FV (plow S) = S * 2 ^ 53 := by
    have := FV_scale (S.log2 + 1) (S * 2 ^ (52 - S.log2)) l2 l3
    have e : plow S = (S.log2 + 1) * 4503599627370496 + S * 2 ^ (52 - S.log2) := by unfold plow; omega
    rw [e, this, Nat.mul_assoc, ← Nat.pow_add, show 52 - S.log2 + (S.log2 + 1) = 53 by omega]
  have hS : FV S = S := by unfold FV; rw [if_pos h]
  rw [hv, show 4503599627370496 * (S * 2 ^ 53) = FV S * 2 ^ 105 by rw [hS, Nat.mul_left_comm], rngN_pat (Nat.two_pow_pos 105), Nat.min_eq_left (by omega)]
  rfl

end Go.Proofs.YtcomkgmonhidhaaGreatDoor

/- Layer 3, the program: round.of, in any direction, of a quotient with a mark for what is left. -/
namespace Go.Proofs.YtcomkgmonhidhaaGreatDoor
set_option linter.unusedVariables false
set_option linter.unusedSimpArgs false
open Go.RowKit Verge

theorem vOf_lt {W n : Nat} {L : Bool} (h : W < 4 * n) : vOf W L < 4 * n := by
  unfold vOf
  split
  · have h1 : W = 4 * (W / 4) + W % 4 := by omega
    have h2 := or1 (W / 4) (W % 4) (by omega)
    rw [← h1] at h2
    have h3 : W % 4 ||| 1 < 4 := by
      have : W % 4 = 0 ∨ W % 4 = 1 ∨ W % 4 = 2 ∨ W % 4 = 3 := by omega
      rcases this with e | e | e | e <;> rw [e] <;> decide
    omega
  · exact h
theorem vOf_ge {W n : Nat} {L : Bool} (h : 4 * n ≤ W) : 4 * n ≤ vOf W L := by
  unfold vOf
  split
  · exact Nat.le_trans h Nat.left_le_or
  · exact h
/-- The places that are kept: how great. -/
theorem of_facts (d : Int) (s : Bool) (G : Nat) (e : Int) (more : Bool) (hG : G ≠ 0) (c k : Nat) (hc : ofX (blen G) e - 2 - e = (c : Int)) (hk : ofX (blen G) e + 1074 = (k : Int)) (V : Nat) (hV : vOf (G / 2 ^ c) (decide (G % 2 ^ c ≠ 0) || more) = V) :
    G / 2 ^ c < 36028797018963968 ∧ V < 36028797018963968 ∧ V / 4 + incV d s V ≤ 9007199254740992 ∧ (V / 4 + incV d s V < 4503599627370496 → k = 0) ∧ incV d s V ≤ 1 := by
  have hi : incV d s V ≤ 1 := by unfold incV; split <;> split <;> omega
  have hb := (blen_lt G (blen G)).1 (Nat.le_refl _)
  have hb2 := blen_le hG
  have hW : G / 2 ^ c < 36028797018963968 := by
    rw [Nat.div_lt_iff_lt_mul (Nat.two_pow_pos _)]
    have h1 : blen G ≤ 55 + c := by unfold ofX at hc; omega
    calc G < 2 ^ blen G := hb
      _ ≤ 2 ^ (55 + c) := Nat.pow_le_pow_right (by omega) h1
      _ = 36028797018963968 * 2 ^ c := by rw [Nat.pow_add]
  have hVl : V < 36028797018963968 := by rw [← hV]; exact vOf_lt (n := 9007199254740992) hW
  refine ⟨hW, hVl, by omega, fun hlt => ?_, hi⟩
  refine Classical.byContradiction fun hk0 => ?_
  have hcb : blen G - 1 = 54 + c ∨ blen G - 1 + 1 = 55 + c := by unfold ofX at hc hk; omega
  have h2 : 2 ^ (54 + c) ≤ G := Nat.le_trans (Nat.pow_le_pow_right (by omega) (by omega)) hb2
  have h3 : 4 * 4503599627370496 ≤ G / 2 ^ c := by
    rw [Nat.le_div_iff_mul_le (Nat.two_pow_pos _)]
    calc 4 * 4503599627370496 * 2 ^ c = 2 ^ (54 + c) := by rw [Nat.pow_add]
      _ ≤ G := h2
  have h4 : 4 * 4503599627370496 ≤ V := by rw [← hV]; exact vOf_ge (n := 4503599627370496) h3
  omega
variable {w : World} {v : Value} {G : Nat}
end Go.Proofs.YtcomkgmonhidhaaGreatDoor

/- Layer 3, the program: round.Ratio, of numbers of at most 60000 bits. -/
namespace Go.Proofs.YtcomkgmonhidhaaGreatDoor
set_option linter.unusedVariables false
set_option linter.unusedSimpArgs false
open Go.RowKit Verge

variable {w : World} {v u : Value} {N D : Nat}
theorem len_pos (n : Nat) : ((0 : Int) < ((dig n).length : Nat)) ↔ n ≠ 0 := by
  constructor
  · rintro h rfl; rw [dig_zero] at h; simp at h
  · intro h; have := dig_length_pos h; omega
theorem quo_bl (k b : Nat) (h : blen (N * 2 ^ k) ≤ b) : blen (N * 2 ^ k / D) ≤ b := (blen_lt _ _).2 (Nat.lt_of_le_of_lt (Nat.div_le_self _ _) ((blen_lt _ _).1 h))
theorem shl_bl (k : Nat) (hN : 0 < N) : blen (N * 2 ^ k) ≤ blen N + k := by
  rw [blen_lt, Nat.pow_add]
  exact Nat.mul_lt_mul_of_pos_right ((blen_lt _ _).1 (Nat.le_refl _)) (Nat.two_pow_pos _)

end Go.Proofs.YtcomkgmonhidhaaGreatDoor

/- Layer 5: Read by the program and by the document; the law. -/
namespace Go.Proofs.YtcomkgmonhidhaaGreatDoor
set_option linter.unusedVariables false
set_option linter.unusedSimpArgs false
open Go.RowKit Verge

/-- What Read answers: the pattern, the place, the error. -/
def readS (d : Int) (s : List UInt8) : Nat × Int × Int :=
  match scn s with
  | .error (p, c) => (0, (p : Int), c)
  | .ok (n, N, D, K) => (fpat n (rng d n (N * 2 ^ K.toNat * 2 ^ KU) (D * 2 ^ (-K).toNat)), 0, 0)
theorem rng_top (d : Int) (s : Bool) (N D : Nat) : rng d s N D ≤ 9218868437227405312 := by
  unfold rng
  split
  · split
    · exact Nat.min_le_right _ _
    · exact Nat.le_trans (Nat.min_le_right _ _) (by omega)
  · exact Nat.min_le_right _ _
theorem fpat_ok {s : Bool} {r : Nat} (h : r ≤ 9218868437227405312) : fpat s r < 18446744073709551616 ∧ ¬ fnan (fpat s r) := by
  unfold fpat fnan
  split
  · exact ⟨by omega, by omega⟩
  · split
    · exact ⟨by omega, by omega⟩
    · exact ⟨by omega, by omega⟩
theorem readS_ok (d : Int) (s : List UInt8) : (readS d s).1 < 18446744073709551616 ∧ ¬ fnan (readS d s).1 := by
  unfold readS
  cases scn s with
  | error pc => exact ⟨by show 0 < _; omega, by show ¬ fnan 0; unfold fnan; omega⟩
  | ok x => exact fpat_ok (rng_top _ _ _ _)
theorem rat3_sv (d : Int) (n : Bool) (x q : Nat) : rat3 d (sv n x) q KU = fpat n (rng d n (x * 2 ^ KU) q) := by
  unfold rat3
  have habs : (sv n x).natAbs = x := by unfold sv; cases n <;> simp
  rw [habs]
  by_cases hx : x = 0
  · subst hx
    rw [Nat.zero_mul, rng_zero, rng_zero]; rfl
  · have hd : decide (sv n x < 0) = n := by
      unfold sv
      cases n
      · exact decide_eq_false (by simp)
      · exact decide_eq_true (by simp; omega)
    rw [hd]

end Go.Proofs.YtcomkgmonhidhaaGreatDoor
