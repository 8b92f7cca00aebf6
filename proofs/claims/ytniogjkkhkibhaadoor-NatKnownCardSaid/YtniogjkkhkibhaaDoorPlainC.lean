/- Plain arithmetic for nat's shifts and quotients. -/
import Derived.Test.YtniogjkkhkibhaaDoorPlainB
import Derived.Laws.BitsAllLaws
namespace Verge
set_option linter.unusedVariables false
set_option linter.unusedSimpArgs false

theorem or_low (a b s : Nat) (ha : a < 2 ^ s) (hb : b % 2 ^ s = 0) : a ||| b = a + b := by
  rw [Nat.or_comm, Go.nat_join s b a hb ha, Nat.add_comm]

theorem or_u64 (a b s : Nat) (ha : a < 2 ^ s) (hb : b % 2 ^ s = 0) (h : a + b < 18446744073709551616) : Go.bits .or .u64 (a : Int) (b : Int) = ((a + b : Nat) : Int) := by
  rw [Go.u64_or_nat a b (by omega) (by omega), or_low a b s ha hb]

theorem or_u64' (a b s : Nat) (ha : a < 2 ^ s) (hb : b % 2 ^ s = 0) (h : a + b < 18446744073709551616) : Go.bits .or .u64 (b : Int) (a : Int) = ((a + b : Nat) : Int) := by
  rw [Go.u64_or_nat b a (by omega) (by omega), Nat.or_comm, or_low a b s ha hb]

theorem or_hi (x y : Nat) (hx : x < 4294967296) (hy : y < 4294967296) : Go.bits .or .u64 (x : Int) ((y : Int) * 4294967296) = ((x + 4294967296 * y : Nat) : Int) := by
  have := or_u64 x (y * 4294967296) 32 (by omega) (by omega) (by omega)
  rw [Nat.mul_comm 4294967296 y]
  rw [← this]
  simp

theorem or_hi' (x y : Nat) (hx : x < 4294967296) (hy : y < 4294967296) : Go.bits .or .u64 ((y : Int) * 4294967296) (x : Int) = ((x + 4294967296 * y : Nat) : Int) := by
  have := or_u64' x (y * 4294967296) 32 (by omega) (by omega) (by omega)
  rw [Nat.mul_comm 4294967296 y]
  rw [← this]
  simp

/-- A word goes s places up. -/
theorem shift_step (L X : List Nat) (i c x s u c' : Nat) (hi : i < L.length) (hx : X.getD i 0 = x)
    (h : val (L.take i) + c * 4294967296 ^ i = val (X.take i) * 2 ^ s) (hu : c + x * 2 ^ s = u + 4294967296 * c') :
    val ((L.set i u).take (i + 1)) + c' * 4294967296 ^ (i + 1) = val (X.take (i + 1)) * 2 ^ s := by
  rw [val_take_set L i u hi, val_take_succ X, hx, Nat.pow_succ]
  generalize 4294967296 ^ i = P at *
  generalize 2 ^ s = Q at *
  grind

theorem two32 (s : Nat) (hs : s ≤ 32) : 4294967296 = 2 ^ s * 2 ^ (32 - s) := by rw [← Nat.pow_add, show s + (32 - s) = 32 by omega]

/-- A word of a number that is shifted down hangs on two words. -/
theorem down_word (x y r s : Nat) (hs : s ≤ 32) : ((x + 4294967296 * (y + 4294967296 * r)) / 2 ^ s) % 4294967296 = ((x + 4294967296 * y) / 2 ^ s) % 4294967296 := by
  have e : x + 4294967296 * (y + 4294967296 * r) = (x + 4294967296 * y) + 2 ^ s * (2 ^ (32 - s) * r * 4294967296) := by
    have h := two32 s hs
    generalize 2 ^ (32 - s) = Q at *
    generalize 2 ^ s = P at *
    rw [Nat.mul_add]
    have : 4294967296 * (4294967296 * r) = P * (Q * r * 4294967296) := by
      calc 4294967296 * (4294967296 * r) = (P * Q) * (4294967296 * r) := by rw [← h]
        _ = _ := by grind
    omega
  rw [e, Nat.add_mul_div_left _ _ (Nat.pow_pos (by omega)), Nat.add_mul_mod_self_right]

theorem mod_succ (N i : Nat) : N % 4294967296 ^ (i + 1) = N % 4294967296 ^ i + 4294967296 ^ i * (N / 4294967296 ^ i % 4294967296) := by
  rw [Nat.pow_succ, Nat.mod_mul]

theorem val_div (xs : List Nat) (h : W32 xs) (i : Nat) : val xs / 4294967296 ^ i = val (xs.drop i) := by
  rcases Nat.lt_or_ge xs.length i with hi | hi
  · rw [List.drop_of_length_le (by omega)]
    have := val_lt h
    have h2 : 4294967296 ^ xs.length ≤ 4294967296 ^ i := Nat.pow_le_pow_right (by omega) (by omega)
    exact Nat.div_eq_of_lt (by omega)
  · rw [val_split xs i hi, Nat.add_mul_div_left _ _ (Nat.pow_pos (by omega))]
    have h1 := val_lt (h.take i)
    rw [List.length_take, Nat.min_eq_left hi] at h1
    rw [Nat.div_eq_of_lt h1, Nat.zero_add]

/-- A step of a shift down: word i is laid. -/
theorem back_step (L' T : List Nat) (hT : W32 T) (i s v : Nat) (hs : s ≤ 32) (hi : i < L'.length)
    (hv : v = ((T.getD i 0 + 4294967296 * T.getD (i + 1) 0) / 2 ^ s) % 4294967296)
    (h : val (L'.take i) = val T / 2 ^ s % 4294967296 ^ i) :
    val ((L'.set i v).take (i + 1)) = val T / 2 ^ s % 4294967296 ^ (i + 1) := by
  rw [val_take_set L' i v hi, mod_succ, h, Nat.div_div_eq_div_mul, Nat.mul_comm (2 ^ s), ← Nat.div_div_eq_div_mul, val_div T hT, val_drop T i, val_drop T (i + 1),
    down_word _ _ _ _ hs, ← hv]

/-- A step of a division by one word, from the top. -/
theorem one_step (Q X : List Nat) (k x r t q r' y : Nat) (hk : k < Q.length) (hx : X.getD k 0 = x) (h : val (X.drop (k + 1)) = y * val (Q.drop (k + 1)) + r)
    (ht : t = x + 4294967296 * r) (hq : t = y * q + r') : val (X.drop k) = y * val ((Q.set k q).drop k) + r' := by
  rw [val_drop X k, hx, val_drop (Q.set k q) k, getD_set_self Q k q hk, drop_set_gt Q k (k + 1) q (by omega), h]
  grind

end Verge
