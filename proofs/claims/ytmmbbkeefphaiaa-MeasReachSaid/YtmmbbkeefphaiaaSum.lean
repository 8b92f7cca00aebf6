/- Plain words on binary64: sums and differences of patterns, the quick road, the number above. -/
import Derived.Test.YtmmbbkeefphaiaaTwo
namespace Verge
set_option linter.unusedVariables false
set_option linter.unusedSimpArgs false

/-- A finite pattern's number, in units. -/
def fv (x : Nat) : Int := if 9223372036854775808 ≤ x then -((FV (x % 9223372036854775808) : Nat) : Int) else ((FV (x % 9223372036854775808) : Nat) : Int)
def ffin (x : Nat) : Prop := x < 18446744073709551616 ∧ x % 9223372036854775808 < 9218868437227405312

theorem fv_word {s : Bool} {r : Nat} (h : r < 9223372036854775808) : fv (fword s r) = if s then -((FV r : Nat) : Int) else ((FV r : Nat) : Int) := by
  unfold fv fword
  cases s
  · simp only [Bool.false_eq_true, if_false]
    rw [if_neg (by omega), Nat.mod_eq_of_lt h]
  · simp only [if_true]
    rw [if_pos (by omega), show (9223372036854775808 + r) % 9223372036854775808 = r by omega]
theorem ffin_word {s : Bool} {r : Nat} (h : r < 9218868437227405312) : ffin (fword s r) := by
  unfold ffin fword
  cases s
  · simp only [Bool.false_eq_true, if_false]; omega
  · simp only [if_true]; omega
theorem word_of {x : Nat} (h : ffin x) : x = fword (decide (9223372036854775808 ≤ x)) (x % 9223372036854775808) := by
  unfold ffin at h
  unfold fword
  by_cases c : 9223372036854775808 ≤ x
  · simp only [c, decide_true, if_true]; omega
  · simp only [c, decide_false, Bool.false_eq_true, if_false]; omega
theorem fv_F (x : Nat) : F (fv x) := by
  unfold fv F
  split <;> simp [Fn_FV]
theorem fv_abs (x : Nat) : (fv x).natAbs = FV (x % 9223372036854775808) := by unfold fv; split <;> omega

theorem signed_fv {s : Bool} {x m k c : Nat} (hc : c ≤ k) (hm : m * 2 ^ k = FV (x % 9223372036854775808)) (hs : s = decide (9223372036854775808 ≤ x)) : Ieee.signed s m (k - c) * ((2 ^ c : Nat) : Int) = fv x := by
  have := signed_scale s m k c hc
  rw [Int.mul_comm, this, hm, hs]
  unfold fv
  by_cases h : 9223372036854775808 ≤ x <;> simp [h]
theorem signed_not (s : Bool) (m u : Nat) : Ieee.signed (!s) m u = -Ieee.signed s m u := by
  unfold Ieee.signed
  cases s <;> simp

/-- A sum of two finite patterns, whose parts are told. -/
theorem sum_parts {s t : Bool} {m n k l : Nat} {a b : Int} (ha : ∀ c, c ≤ k → Ieee.signed s m (k - c) * ((2 ^ c : Nat) : Int) = a) (hb : ∀ c, c ≤ l → Ieee.signed t n (l - c) * ((2 ^ c : Nat) : Int) = b) :
    (Ieee.Datum.sum (.number s m (-1074 + (k : Nat))) (.number t n (-1074 + (l : Nat)))).map Ieee.double.write =
      some (fword (if a + b = 0 then s && t else decide (a + b < 0)) (min (rngN (a + b).natAbs 1) 9218868437227405312)) := by
  unfold Ieee.Datum.sum
  obtain ⟨c, hc⟩ : ∃ c : Nat, c = min k l := ⟨_, rfl⟩
  have e0 : min (-1074 + (k : Int)) (-1074 + (l : Int)) = -1074 + (c : Int) := by omega
  have e1 : (-1074 + (k : Int) - (-1074 + (c : Int))).toNat = k - c := by omega
  have e2 : (-1074 + (l : Int) - (-1074 + (c : Int))).toNat = l - c := by omega
  simp only [e0, e1, e2]
  have h1 := ha c (by omega)
  have h2 := hb c (by omega)
  obtain ⟨T, hT⟩ : ∃ T, Ieee.signed s m (k - c) + Ieee.signed t n (l - c) = T := ⟨_, rfl⟩
  have h3 : T * ((2 ^ c : Nat) : Int) = a + b := by rw [← hT, Int.add_mul, h1, h2]
  rw [hT]
  have hp := Nat.two_pow_pos c
  have h4 : T.natAbs * 2 ^ c = (a + b).natAbs := by rw [← h3, Int.natAbs_mul, Int.natAbs_natCast]
  show some (Ieee.double.nearest (if T = 0 then s && t else decide (T < 0)) T.natAbs (-1074 + (c : Int))) = _
  rw [nearest_eq, h4]
  have h5 : (T = 0) ↔ (a + b = 0) := by
    constructor
    · intro h; rw [← h3, h, Int.zero_mul]
    · intro h
      have : T.natAbs * 2 ^ c = 0 := by rw [h4, h]; rfl
      rcases Nat.mul_eq_zero.1 this with h | h <;> omega
  have h6 : (T < 0) ↔ (a + b < 0) := by
    rw [← h3]
    constructor
    · intro h; exact Int.mul_neg_of_neg_of_pos h (by omega)
    · intro h
      rcases ilt_or_ge T 0 with h7 | h7
      · exact h7
      · have := Int.mul_nonneg h7 (show (0 : Int) ≤ ((2 ^ c : Nat) : Int) by omega); omega
  simp only [h5, h6]
theorem add_fin {x y : Nat} (hx : ffin x) (hy : ffin y) : Ieee.double.add x y =
    some (fword (if fv x + fv y = 0 then decide (9223372036854775808 ≤ x) && decide (9223372036854775808 ≤ y) else decide (fv x + fv y < 0)) (min (rngN (fv x + fv y).natAbs 1) 9218868437227405312)) := by
  obtain ⟨k, m, e, hm⟩ := read_num hx.1 hx.2
  obtain ⟨l, n, f, hn⟩ := read_num hy.1 hy.2
  unfold Ieee.Format.add
  rw [e, f]
  exact sum_parts (fun c hc => signed_fv hc hm rfl) (fun c hc => signed_fv hc hn rfl)
theorem sub_fin {x y : Nat} (hx : ffin x) (hy : ffin y) : Ieee.double.sub x y =
    some (fword (if fv x - fv y = 0 then decide (9223372036854775808 ≤ x) && !decide (9223372036854775808 ≤ y) else decide (fv x - fv y < 0)) (min (rngN (fv x - fv y).natAbs 1) 9218868437227405312)) := by
  obtain ⟨k, m, e, hm⟩ := read_num hx.1 hx.2
  obtain ⟨l, n, f, hn⟩ := read_num hy.1 hy.2
  unfold Ieee.Format.sub
  rw [e, f]
  have := sum_parts (s := decide (9223372036854775808 ≤ x)) (t := !decide (9223372036854775808 ≤ y)) (m := m) (n := n) (k := k) (l := l) (a := fv x) (b := -fv y) (fun c hc => signed_fv hc hm rfl) (fun c hc => by
    rw [signed_not, Int.neg_mul, signed_fv hc hn rfl])
  rw [← Int.sub_eq_add_neg] at this
  exact this

/-- The bound 2^(52 + e) units. -/
def MB (e : Nat) : Nat := 4503599627370496 * 2 ^ e
theorem MB_succ (e : Nat) : MB (e + 1) = 2 * MB e := by unfold MB; rw [Nat.pow_succ]; omega
theorem MB_rung (e : Nat) : MB e = FV ((e + 1) * 4503599627370496) := by
  have := FV_scale e 4503599627370496 (by omega) (by omega)
  rw [show (e + 1) * 4503599627370496 = e * 4503599627370496 + 4503599627370496 by omega, this]
  rfl
theorem MB_pos (e : Nat) : 0 < MB e := Nat.mul_pos (by omega) (Nat.two_pow_pos e)
theorem rng_MB {n e : Nat} (h : n ≤ MB e) : rngN n 1 ≤ (e + 1) * 4503599627370496 := by
  have := rngN_mono h
  rw [MB_rung, rngN_FV] at this
  exact this
theorem rn_MB {z : Int} {e : Nat} (h : z.natAbs ≤ MB e) : (rn z).natAbs ≤ MB e := by
  rw [rn_abs]
  have := rnn_mono h
  rw [MB_rung] at this ⊢
  rw [rnn_of (Fn_FV _)] at this
  exact this

/-- A word that the model writes for a whole number of units. -/
def fnw (z0 : Bool) (z : Int) : Nat := fword (if z = 0 then z0 else decide (z < 0)) (min (rngN z.natAbs 1) 9218868437227405312)
theorem fnw_fv {z0 : Bool} {z : Int} {e : Nat} (he : e ≤ 2045) (h : z.natAbs ≤ MB e) : ffin (fnw z0 z) ∧ fv (fnw z0 z) = rn z := by
  have h1 := rng_MB h
  have h2 : rngN z.natAbs 1 < 9218868437227405312 := by
    have : (e + 1) * 4503599627370496 ≤ 2046 * 4503599627370496 := Nat.mul_le_mul_right _ (by omega)
    omega
  unfold fnw
  rw [Nat.min_eq_left (by omega)]
  refine ⟨ffin_word h2, ?_⟩
  rw [fv_word (by omega)]
  unfold rn
  by_cases h0 : z = 0
  · subst h0
    have : rngN (0 : Int).natAbs 1 = 0 := by decide
    have h3 : rnn (0 : Int).natAbs = 0 := rnn_zero
    rw [this, h3]; simp [FV_zero]
  · rw [if_neg h0]
    by_cases hn : z < 0
    · simp only [hn, decide_true, if_true]; rfl
    · simp only [hn, decide_false, Bool.false_eq_true, if_false]; rfl

theorem ffin_bound {x e : Nat} (he : e ≤ 2045) (h : x % 9223372036854775808 ≤ (e + 1) * 4503599627370496) : (fv x).natAbs ≤ MB e := by
  rw [fv_abs, MB_rung]
  exact FV_mono h

/-- The quick road of a sum: all its steps, and what they tell. -/
theorem quick_sum {x y e : Nat} (he : e ≤ 2040) (hx : ffin x) (hy : ffin y) (bx : (fv x).natAbs ≤ MB e) (by_ : (fv y).natAbs ≤ MB e) :
    ∃ s t a b c d : Nat, Ieee.double.add x y = some s ∧ Ieee.double.sub s x = some t ∧ Ieee.double.sub s t = some a ∧ Ieee.double.sub x a = some b ∧ Ieee.double.sub y t = some c ∧ Ieee.double.add b c = some d ∧
      ffin s ∧ ffin t ∧ ffin a ∧ ffin b ∧ ffin c ∧ ffin d ∧ fv s = rn (fv x + fv y) ∧ fv d = fv x + fv y - fv s := by
  have m1 := MB_succ e
  have m2 : MB (e + 2) = 2 * MB (e + 1) := MB_succ (e + 1)
  have m3 : MB (e + 3) = 2 * MB (e + 2) := MB_succ (e + 2)
  have m4 : MB (e + 4) = 2 * MB (e + 3) := MB_succ (e + 3)
  have m5 : MB (e + 5) = 2 * MB (e + 4) := MB_succ (e + 4)
  obtain ⟨X, hX⟩ : ∃ X, fv x = X := ⟨_, rfl⟩
  obtain ⟨Y, hY⟩ : ∃ Y, fv y = Y := ⟨_, rfl⟩
  have FX : F X := hX ▸ fv_F x
  have FY : F Y := hY ▸ fv_F y
  rw [hX] at bx
  rw [hY] at by_
  have add' : ∀ {p q : Nat}, ffin p → ffin q → ∃ z0, Ieee.double.add p q = some (fnw z0 (fv p + fv q)) := fun hp hq => ⟨_, add_fin hp hq⟩
  have sub' : ∀ {p q : Nat}, ffin p → ffin q → ∃ z0, Ieee.double.sub p q = some (fnw z0 (fv p - fv q)) := fun hp hq => ⟨_, sub_fin hp hq⟩
  obtain ⟨z1, e1⟩ := add' hx hy
  rw [hX, hY] at e1
  obtain ⟨f1, v1⟩ := fnw_fv (z0 := z1) (z := X + Y) (e := e + 1) (by omega) (by omega)
  have b1 := rn_MB (z := X + Y) (e := e + 1) (by omega)
  obtain ⟨z2, e2⟩ := sub' f1 hx
  rw [v1, hX] at e2
  obtain ⟨S, hS⟩ : ∃ S, rn (X + Y) = S := ⟨_, rfl⟩
  rw [hS] at e2 v1 b1
  obtain ⟨f2, v2⟩ := fnw_fv (z0 := z2) (z := S - X) (e := e + 2) (by omega) (by omega)
  have b2 := rn_MB (z := S - X) (e := e + 2) (by omega)
  obtain ⟨T, hT⟩ : ∃ T, rn (S - X) = T := ⟨_, rfl⟩
  rw [hT] at v2 b2
  obtain ⟨z3, e3⟩ := sub' f1 f2
  rw [v1, v2] at e3
  obtain ⟨f3, v3⟩ := fnw_fv (z0 := z3) (z := S - T) (e := e + 3) (by omega) (by omega)
  have b3 := rn_MB (z := S - T) (e := e + 3) (by omega)
  obtain ⟨A, hA⟩ : ∃ A, rn (S - T) = A := ⟨_, rfl⟩
  rw [hA] at v3 b3
  obtain ⟨z4, e4⟩ := sub' hx f3
  rw [hX, v3] at e4
  obtain ⟨f4, v4⟩ := fnw_fv (z0 := z4) (z := X - A) (e := e + 4) (by omega) (by omega)
  have b4 := rn_MB (z := X - A) (e := e + 4) (by omega)
  obtain ⟨B, hB⟩ : ∃ B, rn (X - A) = B := ⟨_, rfl⟩
  rw [hB] at v4 b4
  obtain ⟨z5, e5⟩ := sub' hy f2
  rw [hY, v2] at e5
  obtain ⟨f5, v5⟩ := fnw_fv (z0 := z5) (z := Y - T) (e := e + 3) (by omega) (by omega)
  have b5 := rn_MB (z := Y - T) (e := e + 3) (by omega)
  obtain ⟨C, hC⟩ : ∃ C, rn (Y - T) = C := ⟨_, rfl⟩
  rw [hC] at v5 b5
  obtain ⟨z6, e6⟩ := add' f4 f5
  rw [v4, v5] at e6
  obtain ⟨f6, v6⟩ := fnw_fv (z0 := z6) (z := B + C) (e := e + 5) (by omega) (by omega)
  refine ⟨_, _, _, _, _, _, e1, e2, e3, e4, e5, e6, f1, f2, f3, f4, f5, f6, ?_, ?_⟩
  · rw [v1, hX, hY, hS]
  · rw [v6, v1, hX, hY]
    exact two_sum FX FY hS.symm hT.symm (by rw [hA, hB]) hC.symm
end Verge
