/- Plain laws for the document's own naturals. -/
import Derived.Test.YtiadjcilfljdaaaDoorPlainH
import Derived.Laws.BitsAllLaws
import Derived.Test.YtiadjcilfljdaaaDoorPlainD
namespace Verge
set_option linter.unusedVariables false
set_option linter.unusedSimpArgs false

theorem mask64 (v : Nat) (h : v < 18446744073709551616) : Go.bits .and .u64 (v : Int) 4294967295 = ((v % 4294967296 : Nat) : Int) := by
  have e : Go.bits .and .u64 (v : Int) ((4294967295 : Nat) : Int) = ((v &&& 4294967295 : Nat) : Int) := Go.u64_and_nat v 4294967295 h (by omega)
  rw [show (4294967295 : Nat) = 2 ^ 32 - 1 from rfl, Nat.and_two_pow_sub_one_eq_mod] at e
  exact e

theorem blen_half (y : Nat) (h : y ≠ 0) : blen y = blen (y / 2) + 1 := by
  by_cases h1 : y / 2 = 0
  · have : y = 1 := by omega
    subst this; rfl
  · have := blen_div y 1 (by simpa using h1)
    rw [Nat.pow_one] at this; omega

/-- The bit of a number, off its words. -/
theorem bit_val {X : List Nat} (hX : W32 X) (i : Nat) : val X / 2 ^ i % 2 = X.getD (i / 32) 0 / 2 ^ (i % 32) % 2 := by
  have := bit_word hX (i / 32) (i % 32) (by omega)
  rwa [show 32 * (i / 32) + i % 32 = i by omega] at this

theorem ntz_bit0 (V k : Nat) (h0 : V ≠ 0) (h : k < ntz V) : V / 2 ^ k % 2 = 0 := by
  obtain ⟨m, hm⟩ := ntz_spec V h0
  generalize ntz V = t at *
  obtain ⟨d, rfl⟩ : ∃ d, t = k + (d + 1) := ⟨t - k - 1, by omega⟩
  rw [hm, Nat.pow_add, Nat.mul_assoc, Nat.mul_div_cancel_left _ (Nat.pow_pos (by omega)), Nat.pow_succ, Nat.mul_comm (2 ^ d), Nat.mul_assoc]
  omega
theorem ntz_bit1 (V : Nat) (h0 : V ≠ 0) : V / 2 ^ ntz V % 2 = 1 := by
  obtain ⟨m, hm⟩ := ntz_spec V h0
  generalize ntz V = t at *
  rw [hm, Nat.mul_div_cancel_left _ (Nat.pow_pos (by omega))]
  omega
theorem ntz_ge {X : List Nat} (j : Nat) (hz : val (X.take j) = 0) (h0 : val X ≠ 0) (hj : j ≤ X.length) : 32 * j ≤ ntz (val X) := by
  rcases Nat.lt_or_ge (ntz (val X)) (32 * j) with h | h
  · have h1 := ntz_bit1 (val X) h0
    have e : val X = 4294967296 ^ j * val (X.drop j) := by rw [val_split X j hj, hz, Nat.zero_add]
    generalize ntz (val X) = t at *
    obtain ⟨d, hd⟩ : ∃ d, 32 * j = t + (d + 1) := ⟨32 * j - t - 1, by omega⟩
    rw [e, pow32, hd, Nat.pow_add, Nat.mul_assoc, Nat.mul_div_cancel_left _ (Nat.pow_pos (by omega)), Nat.pow_succ, Nat.mul_comm (2 ^ d), Nat.mul_assoc] at h1
    omega
  · exact h
theorem ntz_lt {X : List Nat} (hX : W32 X) (h0 : val X ≠ 0) : ntz (val X) < 32 * X.length := by
  rcases Nat.lt_or_ge (ntz (val X)) (32 * X.length) with h | h
  · exact h
  · obtain ⟨m, hm⟩ := ntz_spec (val X) h0
    have h1 := val_lt hX
    rw [pow32] at h1
    have h2 := Nat.pow_le_pow_right (n := 2) (by omega) h
    generalize ntz (val X) = t at *
    have h3 : 2 ^ t ≤ val X := by rw [hm]; exact Nat.le_mul_of_pos_right _ (by omega)
    omega

theorem plus_step (X Y L : List Nat) (i c s : Nat) (hL : L.length = i) (hi : val L + c * 4294967296 ^ i = val (X.take i) + val (Y.take i)) (hs : X.getD i 0 + Y.getD i 0 + c = s) :
    (L ++ [s % 4294967296]).length = i + 1 ∧ val (L ++ [s % 4294967296]) + s / 4294967296 * 4294967296 ^ (i + 1) = val (X.take (i + 1)) + val (Y.take (i + 1)) := by
  refine ⟨by simp [hL], ?_⟩
  rw [val_append, hL, val_take_succ X, val_take_succ Y, Nat.pow_succ]
  have e : s = s % 4294967296 + 4294967296 * (s / 4294967296) := by omega
  generalize s % 4294967296 = q at *
  generalize s / 4294967296 = r at *
  generalize 4294967296 ^ i = P at *
  simp only [val_cons, val_nil]
  grind

theorem minus_step (X Y L : List Nat) (i c s c' : Nat) (hL : L.length = i) (hi : val L + val (Y.take i) = val (X.take i) + c * 4294967296 ^ i) (hs : s + Y.getD i 0 + c = X.getD i 0 + 4294967296 * c') :
    (L ++ [s]).length = i + 1 ∧ val (L ++ [s]) + val (Y.take (i + 1)) = val (X.take (i + 1)) + c' * 4294967296 ^ (i + 1) := by
  refine ⟨by simp [hL], ?_⟩
  rw [val_append, hL, val_take_succ X, val_take_succ Y, Nat.pow_succ]
  generalize 4294967296 ^ i = P at *
  simp only [val_cons, val_nil]
  grind

theorem minus_end (X Y L : List Nat) (n c : Nat) (hL : W32 L) (hl : L.length = n) (hX : X.length = n) (hX32 : W32 X) (hle : val Y ≤ val X)
    (hi : val L + val (Y.take n) = val (X.take n) + c * 4294967296 ^ n) : val L = val X - val Y := by
  have h1 := val_lt hX32
  have h2 := val_lt hL
  rw [hX] at h1
  rw [hl] at h2
  rw [List.take_of_length_le (show X.length ≤ n by omega)] at hi
  have hY : val (Y.take n) = val Y := by
    rcases Nat.lt_or_ge n Y.length with h | h
    · have h3 := val_split Y n (by omega)
      have h4 : val (Y.drop n) = 0 := by
        rcases Nat.eq_zero_or_pos (val (Y.drop n)) with e | e
        · exact e
        · have := Nat.le_mul_of_pos_right (4294967296 ^ n) e
          omega
      rw [h4] at h3; omega
    · rw [List.take_of_length_le h]
  rw [hY] at hi
  rcases Nat.eq_zero_or_pos c with h0 | h0
  · subst h0; omega
  · have : 1 * 4294967296 ^ n ≤ c * 4294967296 ^ n := Nat.mul_le_mul_right _ h0
    omega

/-- A word goes s places up, within a list that holds what is behind. -/
theorem left_step (L X : List Nat) (q i s c v x : Nat) (hi : q + i + 1 < L.length) (hx : X.getD i 0 = x) (hc : L.getD (q + i) 0 = c) (hz : L.getD (q + i + 1) 0 = 0) (hv : x * 2 ^ s = v)
    (h : val L = val (X.take i) * 2 ^ s * 4294967296 ^ q) :
    val ((L.set (q + i) (c + v % 4294967296)).set (q + i + 1) (v / 4294967296)) = val (X.take (i + 1)) * 2 ^ s * 4294967296 ^ q := by
  have h1 := val_set (xs := L) (i := q + i) (by omega) (c + v % 4294967296)
  have h2 := val_set (xs := L.set (q + i) (c + v % 4294967296)) (i := q + i + 1) (by simpa using hi) (v / 4294967296)
  rw [getD_set_ne L _ _ _ (by omega), hz] at h2
  rw [hc] at h1
  rw [val_take_succ X, hx]
  have e : v = v % 4294967296 + 4294967296 * (v / 4294967296) := by omega
  have hp : 4294967296 ^ (q + i + 1) = 4294967296 ^ (q + i) * 4294967296 := Nat.pow_succ ..
  have hp2 : 4294967296 ^ (q + i) = 4294967296 ^ q * 4294967296 ^ i := Nat.pow_add ..
  rw [hp, hp2] at h2
  rw [hp2] at h1
  generalize v % 4294967296 = a at *
  generalize v / 4294967296 = b at *
  generalize 4294967296 ^ q = Q at *
  generalize 4294967296 ^ i = P at *
  generalize 2 ^ s = S at *
  generalize val (X.take i) = T at *
  grind

theorem or_u32 (a b s : Nat) (ha : a < 2 ^ s) (hb : b % 2 ^ s = 0) (hA : a < 4294967296) (hB : b < 4294967296) : Go.bits .or .u32 (a : Int) (b : Int) = ((a + b : Nat) : Int) := by
  rw [Go.u32_or_nat a b hA hB, or_low a b s ha hb]

theorem low_mod (x s : Nat) (hs : s ≤ 32) : (x * 2 ^ s) % 4294967296 % 2 ^ s = 0 := by
  have h : 4294967296 = 2 ^ s * 2 ^ (32 - s) := two32 s hs
  rw [h, Nat.mod_mul_right_mod, Nat.mul_mod_left]
theorem high_lt (x s : Nat) (hx : x < 4294967296) : x * 2 ^ s / 4294967296 < 2 ^ s := by
  rw [Nat.div_lt_iff_lt_mul (by omega), Nat.mul_comm]
  exact Nat.mul_lt_mul_of_pos_left hx (Nat.pow_pos (by omega))

/-- A word of a number that is moved down is laid behind those below. -/
theorem right_step (L T : List Nat) (hT : W32 T) (i s v : Nat) (hs : s ≤ 32) (hl : L.length = i)
    (hv : v = ((T.getD i 0 + 4294967296 * T.getD (i + 1) 0) / 2 ^ s) % 4294967296)
    (h : val L = val T / 2 ^ s % 4294967296 ^ i) : (L ++ [v]).length = i + 1 ∧ val (L ++ [v]) = val T / 2 ^ s % 4294967296 ^ (i + 1) := by
  refine ⟨by simp [hl], ?_⟩
  rw [val_append, hl, mod_succ, h, Nat.div_div_eq_div_mul, Nat.mul_comm (2 ^ s), ← Nat.div_div_eq_div_mul, val_div T hT, val_drop T i, val_drop T (i + 1), down_word _ _ _ _ hs, ← hv]
  simp

theorem right_end (T : List Nat) (hT : W32 T) (s : Nat) : val T / 2 ^ s % 4294967296 ^ T.length = val T / 2 ^ s :=
  Nat.mod_eq_of_lt (Nat.lt_of_le_of_lt (Nat.div_le_self _ _) (val_lt hT))

/-- What is cut off at the bottom of a word. -/
theorem lost_word (x s : Nat) (hx : x < 4294967296) (hs : s < 32) : x * 2 ^ (31 - s) % 4294967296 * 2 % 4294967296 ≠ 0 ↔ x % 2 ^ s ≠ 0 := by
  have e : x * 2 ^ (31 - s) % 4294967296 * 2 % 4294967296 = x * 2 ^ (32 - s) % 4294967296 := by
    rw [show 32 - s = (31 - s) + 1 by omega, Nat.pow_succ, ← Nat.mul_assoc]
    generalize x * 2 ^ (31 - s) = z
    omega
  have h : 4294967296 = 2 ^ (32 - s) * 2 ^ s := by rw [← Nat.pow_add, show 32 - s + s = 32 by omega]
  rw [e, Nat.mul_comm x, show (2 ^ (32 - s) * x) % 4294967296 = 2 ^ (32 - s) * (x % 2 ^ s) by rw [h, Nat.mul_mod_mul_left]]
  have : 0 < 2 ^ (32 - s) := Nat.pow_pos (by omega)
  generalize 2 ^ (32 - s) = P at *
  generalize x % 2 ^ s = r
  constructor
  · rintro h0 rfl; exact h0 (by simp)
  · intro h0 h1
    rcases Nat.mul_eq_zero.1 h1 with h2 | h2 <;> omega
end Verge

/- Plain laws of the document's quotient and root. -/
namespace Verge
set_option linter.unusedVariables false
set_option linter.unusedSimpArgs false

/-- A step of 'x times Y is taken from R': t is the borrow and the carry. -/
theorem rsub_step (R R' Y : List Nat) (i x t s t' : Nat) (hi : i < R'.length) (hl : R'.length = R.length) (hd : R'.drop i = R.drop i)
    (h : val (R'.take i) + x * val (Y.take i) = val (R.take i) + t * 4294967296 ^ i) (hs : s + x * Y.getD i 0 + t = R'.getD i 0 + 4294967296 * t') :
    val ((R'.set i s).take (i + 1)) + x * val (Y.take (i + 1)) = val (R.take (i + 1)) + t' * 4294967296 ^ (i + 1) ∧ (R'.set i s).drop (i + 1) = R.drop (i + 1) := by
  have hg : R'.getD i 0 = R.getD i 0 := by
    have h1 := getD_drop R' i 0
    have h2 := getD_drop R i 0
    rw [Nat.add_zero] at h1 h2
    rw [← h1, ← h2, hd]
  rw [hg] at hs
  constructor
  · rw [val_take_set R' i s hi, val_take_succ R, val_take_succ Y, Nat.pow_succ]
    generalize 4294967296 ^ i = P at *
    generalize val (R'.take i) = a at *
    generalize val (R.take i) = b at *
    generalize val (Y.take i) = c at *
    grind
  · rw [drop_set_gt R' i (i + 1) s (by omega)]
    have := congrArg (List.drop 1) hd
    rwa [List.drop_drop, List.drop_drop] at this

theorem rsub_end (R R' Y : List Nat) (n x t : Nat) (hR' : W32 R') (hl : R'.length = n) (hl2 : R.length = n) (hY : Y.length ≤ n) (hle : x * val Y ≤ val R)
    (h : val (R'.take n) + x * val (Y.take n) = val (R.take n) + t * 4294967296 ^ n) : val R' + x * val Y = val R := by
  rw [List.take_of_length_le (by omega), List.take_of_length_le hY, List.take_of_length_le (by omega)] at h
  have h1 := val_lt hR'
  rw [hl] at h1
  rcases Nat.eq_zero_or_pos t with h0 | h0
  · subst h0; omega
  · have : 1 * 4294967296 ^ n ≤ t * 4294967296 ^ n := Nat.mul_le_mul_right _ h0
    omega

/-- A guess off the top words is not too many. -/
theorem guess_le {R V : List Nat} (hR : W32 R) (hV : W32 V) (n : Nat) (hn : V.length = n + 1) (hl : R.length = n + 2) (r1 r0 v0 : Nat) (h1 : R.getD (n + 1) 0 = r1) (h0 : R.getD n 0 = r0) (hv : V.getD n 0 = v0) :
    (r0 + 4294967296 * r1) / (v0 + 1) * val V ≤ val R := by
  have eR : val R = val (R.take n) + 4294967296 ^ n * (r0 + 4294967296 * r1) := by
    rw [val_split R n (by omega), val_drop R n, h0, val_drop R (n + 1), h1, List.drop_of_length_le (by omega)]; simp
  have eV : val V ≤ 4294967296 ^ n * (v0 + 1) := by
    rw [val_split V n (by omega), val_drop V n, hv, List.drop_of_length_le (by omega)]
    have := val_lt (hV.take n)
    rw [List.length_take, Nat.min_eq_left (by omega)] at this
    simp only [val_nil, Nat.mul_zero, Nat.add_zero, Nat.mul_add, Nat.mul_one]
    omega
  generalize r0 + 4294967296 * r1 = T at *
  have hq : T / (v0 + 1) * (v0 + 1) ≤ T := Nat.div_mul_le_self _ _
  calc T / (v0 + 1) * val V ≤ T / (v0 + 1) * (4294967296 ^ n * (v0 + 1)) := Nat.mul_le_mul_left _ eV
    _ = 4294967296 ^ n * (T / (v0 + 1) * (v0 + 1)) := by grind
    _ ≤ 4294967296 ^ n * T := Nat.mul_le_mul_left _ hq
    _ ≤ val R := by omega

/-- A list whose words went one place up, a word laid at the bottom. -/
theorem shifted (L R : List Nat) (n u : Nat) (hL : L.length = n + 1) (hR : R.length = n + 1) (hg : ∀ p, 0 < p → p ≤ n → L.getD p 0 = R.getD (p - 1) 0) : L.set 0 u = u :: R.take n := by
  apply List.ext_getElem?
  intro p
  rcases p with _ | p
  · rw [List.getElem?_set_self (by omega)]; rfl
  · rw [List.getElem?_set_ne (by omega), List.getElem?_cons_succ]
    rcases Nat.lt_or_ge p n with hp | hp
    · rw [get_of_lt L (by omega), List.getElem?_take, if_pos hp, get_of_lt R (by omega), hg (p + 1) (by omega) (by omega)]; rfl
    · rw [List.getElem?_eq_none (by omega), List.getElem?_eq_none (by simp; omega)]

theorem val_top_zero {R : List Nat} (hR : W32 R) (n : Nat) (hl : R.length = n + 1) (h : val R < 4294967296 ^ n) : val (R.take n) = val R := by
  have e := val_take_succ R n
  rw [List.take_of_length_le (by omega)] at e
  rcases Nat.eq_zero_or_pos (R.getD n 0) with h0 | h0
  · rw [h0] at e; omega
  · have := Nat.le_mul_of_pos_right (4294967296 ^ n) h0
    omega

/-- A word of a quotient is laid. -/
theorem by_step (Q U : List Nat) (k x r t q r' V : Nat) (hk : k < Q.length) (hx : U.getD k 0 = x) (h : val (U.drop (k + 1)) = V * val (Q.drop (k + 1)) + r)
    (ht : t = x + 4294967296 * r) (hq : r' + q * V = t) : val (U.drop k) = V * val ((Q.set k q).drop k) + r' := by
  rw [val_drop U k, hx, val_drop (Q.set k q) k, getD_set_self Q k q hk, drop_set_gt Q k (k + 1) q (by omega), h]
  grind

theorem by_div (a b s Q R : Nat) (hb : 0 < b) (h : a * 2 ^ s = b * 2 ^ s * Q + R) (hR : R < b * 2 ^ s) : Q = a / b ∧ R / 2 ^ s = a % b := by
  have hp : 0 < 2 ^ s := Nat.pow_pos (by omega)
  have h1 : Q = a * 2 ^ s / (b * 2 ^ s) := by
    rw [h, Nat.mul_add_div (Nat.mul_pos hb hp), Nat.div_eq_of_lt hR, Nat.add_zero]
  have h2 : R = a * 2 ^ s % (b * 2 ^ s) := by
    rw [h, Nat.mul_add_mod, Nat.mod_eq_of_lt hR]
  rw [Nat.mul_div_mul_right _ _ hp] at h1
  rw [Nat.mul_mod_mul_right] at h2
  exact ⟨h1, by rw [h2, Nat.mul_div_cancel _ hp]⟩
end Verge

/- Plain laws of the document's root and power. -/
namespace Verge
set_option linter.unusedVariables false
set_option linter.unusedSimpArgs false

theorem dig_shift_length (x e k : Nat) (he : e ≤ 32) (h : (dig x).length ≤ k) : (dig (x * 2 ^ e)).length ≤ k + 1 := by
  rw [dig_length_le] at *
  rw [Nat.pow_succ]
  have h2 : 2 ^ e ≤ 4294967296 := by
    have := Nat.pow_le_pow_right (n := 2) (by omega) he
    simpa using this
  exact Nat.mul_lt_mul_of_lt_of_le h h2 (by omega)

/-- What the root's loop keeps: s is the root of what was seen, r what is left. -/
def SqInv (V i s r : Nat) : Prop := s * s + r = V / 4 ^ i ∧ r ≤ 2 * s

theorem sq_start (V k : Nat) (h : V < 4 ^ k) : SqInv V k 0 0 := ⟨by rw [Nat.div_eq_of_lt h], by omega⟩

theorem sq_bits (V i b1 b0 : Nat) (h1 : V / 2 ^ (2 * i + 1) % 2 = b1) (h0 : V / 2 ^ (2 * i) % 2 = b0) : V / 4 ^ i = 4 * (V / 4 ^ (i + 1)) + (2 * b1 + b0) := by
  have e : 4 ^ i = 2 ^ (2 * i) := by rw [Nat.pow_mul]
  have e1 : V / 2 ^ (2 * i + 1) = V / 2 ^ (2 * i) / 2 := by rw [Nat.pow_succ, Nat.div_div_eq_div_mul]
  have e2 : V / 4 ^ (i + 1) = V / 4 ^ i / 4 := by rw [Nat.pow_succ, Nat.div_div_eq_div_mul]
  rw [e2, e]
  rw [e1] at h1
  omega

theorem sq_no {V i s r b : Nat} (h : SqInv V (i + 1) s r) (hb : V / 4 ^ i = 4 * (V / 4 ^ (i + 1)) + b) (hlt : r * 2 ^ 2 + b < s * 2 ^ 2 + 1) : SqInv V i (s * 2 ^ 1) (r * 2 ^ 2 + b) := by
  obtain ⟨h1, h2⟩ := h
  refine ⟨?_, by omega⟩
  rw [hb, ← h1]
  grind
theorem sq_yes {V i s r b : Nat} (h : SqInv V (i + 1) s r) (hb : V / 4 ^ i = 4 * (V / 4 ^ (i + 1)) + b) (hb4 : b ≤ 3) (hge : s * 2 ^ 2 + 1 ≤ r * 2 ^ 2 + b) : SqInv V i (s * 2 ^ 1 + 1) (r * 2 ^ 2 + b - (s * 2 ^ 2 + 1)) := by
  obtain ⟨h1, h2⟩ := h
  refine ⟨?_, by omega⟩
  rw [hb, ← h1]
  have e : (s * 2 ^ 1 + 1) * (s * 2 ^ 1 + 1) = 4 * (s * s) + (s * 2 ^ 2 + 1) := by grind
  rw [e]
  omega
theorem sq_le {V i s r : Nat} (h : SqInv V i s r) : s ≤ V ∧ r ≤ V := by
  obtain ⟨h1, h2⟩ := h
  have h3 := Nat.div_le_self V (4 ^ i)
  rcases Nat.eq_zero_or_pos s with h0 | h0
  · subst h0; omega
  · have := Nat.le_mul_of_pos_left s h0
    omega
theorem sq_end {V s r : Nat} (h : SqInv V 0 s r) : IsRoot V s ∧ r = V - s * s := by
  obtain ⟨h1, h2⟩ := h
  rw [Nat.pow_zero, Nat.div_one] at h1
  refine ⟨⟨by omega, ?_⟩, by omega⟩
  have : (s + 1) * (s + 1) = s * s + 2 * s + 1 := by grind
  omega

/-- What Power's loop keeps. -/
def PwInv (T V M p x m : Nat) : Prop := p * x ^ m = T ∧ x ≤ M ∧ p ≤ M ∧ (0 < V → 0 < x ∧ 0 < p) ∧ (V = 0 → x = 0)

theorem pw_mul {T V M p x m : Nat} (h : PwInv T V M p x m) (hT : T ≤ M) (hm : 0 < m) : p * x ≤ M := by
  obtain ⟨h1, h2, h3, h4, h5⟩ := h
  rcases Nat.eq_zero_or_pos V with h0 | h0
  · rw [h5 h0]; omega
  · exact Nat.le_trans (powInv_x ⟨h1, (h4 h0).2, (h4 h0).1, hm⟩) hT
theorem pw_sq {T V M p x m : Nat} (h : PwInv T V M p x m) (hT : T ≤ M) (hm : 2 ≤ m) : x * x ≤ M := by
  obtain ⟨h1, h2, h3, h4, h5⟩ := h
  rcases Nat.eq_zero_or_pos V with h0 | h0
  · rw [h5 h0]; omega
  · obtain ⟨h6, h7⟩ := h4 h0
    have : x * x ≤ x ^ m := by rw [← Nat.pow_two]; exact Nat.pow_le_pow_right h6 hm
    have := Nat.le_mul_of_pos_left (x ^ m) h7
    omega
theorem pw_odd {T V M p x m : Nat} (h : PwInv T V M p x m) (hT : T ≤ M) (ho : m % 2 = 1) (hm : 0 < m / 2) : PwInv T V M (p * x) (x * x) (m / 2) := by
  have a := pw_mul h hT (by omega)
  have b := pw_sq h hT (by omega)
  obtain ⟨h1, h2, h3, h4, h5⟩ := h
  refine ⟨?_, b, a, fun h0 => ⟨Nat.mul_pos (h4 h0).1 (h4 h0).1, Nat.mul_pos (h4 h0).2 (h4 h0).1⟩, fun h0 => by rw [h5 h0]⟩
  have e : m = 2 * (m / 2) + 1 := by omega
  rw [← h1]
  conv => rhs; rw [e, Nat.pow_succ, Nat.pow_mul, Nat.pow_two]
  rw [Nat.mul_assoc, Nat.mul_comm x]
theorem pw_even {T V M p x m : Nat} (h : PwInv T V M p x m) (hT : T ≤ M) (ho : m % 2 = 0) (hm : 0 < m / 2) : PwInv T V M p (x * x) (m / 2) := by
  have b := pw_sq h hT (by omega)
  obtain ⟨h1, h2, h3, h4, h5⟩ := h
  refine ⟨?_, b, h3, fun h0 => ⟨Nat.mul_pos (h4 h0).1 (h4 h0).1, (h4 h0).2⟩, fun h0 => by rw [h5 h0]⟩
  have e : m = 2 * (m / 2) := by omega
  rw [← h1]
  conv => rhs; rw [e, Nat.pow_mul, Nat.pow_two]
theorem pw_last {T V M p x m : Nat} (h : PwInv T V M p x m) (hT : T ≤ M) (hm : m = 1) : PwInv T V M (p * x) x 0 := by
  have a := pw_mul h hT (by omega)
  obtain ⟨h1, h2, h3, h4, h5⟩ := h
  subst hm
  exact ⟨by rw [Nat.pow_zero, Nat.mul_one, ← h1, Nat.pow_one], h2, a, fun h0 => ⟨(h4 h0).1, Nat.mul_pos (h4 h0).2 (h4 h0).1⟩, h5⟩
end Verge

/- What the calls of layer 2 answer, as one record. -/
namespace Verge
set_option linter.unusedVariables false
set_option linter.unusedSimpArgs false

structure Ans where
  l : List Nat
  m : List Nat
  wv : Nat
  nv : Int
  bv : Bool
  ev : Int

def isqF (a : Nat) : Nat → Nat
  | 0 => 0
  | n + 1 => if (isqF a n + 1) * (isqF a n + 1) ≤ a then isqF a n + 1 else isqF a n

theorem isqF_spec (a n : Nat) : isqF a n * isqF a n ≤ a ∧ (isqF a n = n ∨ a < (isqF a n + 1) * (isqF a n + 1)) := by
  induction n with
  | zero => simp [isqF]
  | succ n ih =>
    simp only [isqF]
    split
    · rename_i h
      refine ⟨h, ?_⟩
      rcases ih.2 with h1 | h1
      · exact .inl (by rw [h1])
      · omega
    · rename_i h
      exact ⟨ih.1, .inr (by omega)⟩

/-- The square root, rounded down. -/
def isq (a : Nat) : Nat := isqF a a
theorem isq_root (a : Nat) : IsRoot a (isq a) := by
  have h := isqF_spec a a
  refine ⟨h.1, ?_⟩
  rcases h.2 with h1 | h1
  · rw [isq, h1]
    have : (a + 1) * (a + 1) = a * a + 2 * a + 1 := by grind
    have : a * a + 2 * a + 1 > a := by omega
    omega
  · exact h1

def nroot (a : Nat) : List Nat × Bool × Int := if long a then ([], false, 2) else (dig (isq a), decide (isq a * isq a = a), 0)
theorem nroot_of {a : Nat} {r : List Nat} {b : Bool} {er : Int} (h : RootOf a r b er) : nroot a = (r, b, er) := by
  unfold RootOf at h
  unfold nroot
  split at h
  · rw [if_pos (by assumption)]; obtain ⟨rfl, rfl, rfl⟩ := h; rfl
  · rw [if_neg (by assumption)]
    obtain ⟨s, hs, rfl, rfl, rfl⟩ := h
    rw [isRoot_unique hs (isq_root a)]

def nword (a : Nat) : Nat × Bool := (if a < 18446744073709551616 then a else 0, decide (a < 18446744073709551616))

/-- The answer of call k: a record whose empty places are 0. -/
def ansOf (k x y v : Nat) (n : Int) : Ans :=
  match k with
  | 0 => ⟨dig x, [], 0, 0, false, 0⟩
  | 1 => ⟨dig v, [], 0, 0, false, 0⟩
  | 2 => ⟨[], [], (nword x).1, 0, (nword x).2, 0⟩
  | 3 => ⟨[], [], 0, cmp x y, false, 0⟩
  | 4 => ⟨[], [], 0, (blen x : Nat), false, 0⟩
  | 5 => ⟨[], [], 0, (ntz x : Nat), false, 0⟩
  | 6 => ⟨(nadd x y).1, [], 0, 0, false, (nadd x y).2⟩
  | 7 => ⟨(nsub x y).1, [], 0, 0, false, (nsub x y).2⟩
  | 8 => ⟨(nmul x y).1, [], 0, 0, false, (nmul x y).2⟩
  | 9 => ⟨(nquo x y).1, (nquo x y).2.1, 0, 0, false, (nquo x y).2.2⟩
  | 10 => ⟨(nroot x).1, [], 0, 0, (nroot x).2.1, (nroot x).2.2⟩
  | 11 => ⟨(npow x n).1, [], 0, 0, false, (npow x n).2⟩
  | 12 => ⟨(nshl x n).1, [], 0, 0, false, (nshl x n).2⟩
  | _ => ⟨(nshr x n).1, [], 0, 0, (nshr x n).2.1, (nshr x n).2.2⟩
end Verge

/- How long the lists of layer 2's answers are. -/
namespace Verge
set_option linter.unusedVariables false
set_option linter.unusedSimpArgs false

theorem fit_len (n N : Nat) (h : 16384 ≤ N) : (fit n).1.length ≤ N := by
  unfold fit
  by_cases hl : long n = true
  · rw [if_pos hl]; simp
  · rw [if_neg hl]; have := (long_false n).1 (by simpa using hl); show (dig n).length ≤ N; omega
theorem ok_len {n N : Nat} (h : 16384 ≤ N) (hl : long n = false) {m : Nat} (hm : m ≤ n) : (dig m).length ≤ N := by
  have := (long_false n).1 hl
  have := dig_length_mono hm
  omega
theorem small_len {v N : Nat} (h : 16384 ≤ N) (hv : v < 18446744073709551616) : (dig v).length ≤ N := by
  have : (dig v).length ≤ 2 := dig_length_le.2 (by omega)
  omega
theorem nadd_len (a b N : Nat) (h : 16384 ≤ N) : (nadd a b).1.length ≤ N := by
  unfold nadd; split
  · simp
  · exact fit_len _ _ h
theorem nsub_len (a b N : Nat) (h : 16384 ≤ N) : (nsub a b).1.length ≤ N := by
  unfold nsub; split
  · simp
  · split
    · simp
    · exact fit_len _ _ h
theorem nmul_len (a b N : Nat) (h : 16384 ≤ N) : (nmul a b).1.length ≤ N := by
  unfold nmul; split
  · simp
  · exact fit_len _ _ h
theorem npow_len (a : Nat) (e : Int) (N : Nat) (h : 16384 ≤ N) : (npow a e).1.length ≤ N := by
  unfold npow; split
  · simp
  · split
    · simp
    · exact fit_len _ _ h
theorem nquo_len (a b N : Nat) (h : 16384 ≤ N) : (nquo a b).1.length ≤ N ∧ (nquo a b).2.1.length ≤ N := by
  unfold nquo; split
  · simp
  · rename_i hb
    split
    · simp
    · rename_i hl
      simp at hl
      exact ⟨ok_len h hl.1 (Nat.div_le_self _ _), ok_len h hl.2 (Nat.le_of_lt (Nat.mod_lt _ (by omega)))⟩
theorem nroot_len (a N : Nat) (h : 16384 ≤ N) : (nroot a).1.length ≤ N := by
  unfold nroot; split
  · simp
  · rename_i hl
    have hs := (isq_root a).1
    have : isq a ≤ isq a * isq a := by
      rcases Nat.eq_zero_or_pos (isq a) with h0 | h0
      · rw [h0]; omega
      · exact Nat.le_mul_of_pos_left _ h0
    exact ok_len h (by simpa using hl) (by omega)
theorem shl_lt (a e : Nat) : a * 2 ^ e < 2 ^ (blen a + e) := by
  rw [Nat.pow_add]
  exact Nat.mul_lt_mul_of_pos_right ((blen_lt a _).1 (Nat.le_refl _)) (Nat.two_pow_pos _)
theorem words_of_blen {n k K : Nat} (h : n < 2 ^ k) (hk : k ≤ 32 * K) : (dig n).length ≤ K := by
  rw [dig_length_le, show (4294967296 : Nat) = 2 ^ 32 from rfl, ← Nat.pow_mul]
  exact Nat.lt_of_lt_of_le h (Nat.pow_le_pow_right (by omega) hk)
theorem nshl_len (a : Nat) (e : Int) (N : Nat) (h : 16384 ≤ N) : (nshl a e).1.length ≤ N := by
  unfold nshl; split
  · simp
  · split
    · simp
    · split
      · simp
      · split
        · simp
        · rename_i h0 hl ha hb
          have hpos : a ≠ 0 := ha
          have hle : (dig (a * 2 ^ e.toNat)).length ≤ 16384 := words_of_blen (shl_lt a _) (by omega)
          exact Nat.le_trans hle h
theorem nshr_len (a : Nat) (e : Int) (N : Nat) (h : 16384 ≤ N) : (nshr a e).1.length ≤ N := by
  unfold nshr; split
  · simp
  · split
    · simp
    · rename_i hl
      exact ok_len h (by simpa using hl) (Nat.div_le_self _ _)
end Verge
