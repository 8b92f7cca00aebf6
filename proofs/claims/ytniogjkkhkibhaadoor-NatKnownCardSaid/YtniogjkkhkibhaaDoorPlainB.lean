/- Plain arithmetic for nat.Sub and nat.Mul. -/
import Derived.Test.YtniogjkkhkibhaaDoorPlain
namespace Verge
set_option linter.unusedVariables false
set_option linter.unusedSimpArgs false

def nsub (a b : Nat) : List Nat × Int := if a < b then ([], 1) else if long a || long b then ([], 2) else fit (a - b)
theorem nsub_arg {a b : Nat} (h : a < b) : nsub a b = ([], 1) := by simp [nsub, h]
theorem nsub_long {a b : Nat} (h0 : ¬ a < b) (h : (long a || long b) = true) : nsub a b = ([], 2) := by simp only [nsub, h, h0, if_true, if_false]
theorem nsub_fit {a b : Nat} (h0 : ¬ a < b) (h : (long a || long b) = false) : nsub a b = fit (a - b) := by simp [nsub, h, h0]

theorem sub_step (L L' Y : List Nat) (k c s c' : Nat) (hk : k < L'.length) (hl : L'.length = L.length) (hd : L'.drop k = L.drop k)
    (hi : val (L'.take k) + val (Y.take k) = val (L.take k) + c * 4294967296 ^ k)
    (hs : s + Y.getD k 0 + c = L'.getD k 0 + 4294967296 * c') :
    val ((L'.set k s).take (k + 1)) + val (Y.take (k + 1)) = val (L.take (k + 1)) + c' * 4294967296 ^ (k + 1) ∧ (L'.set k s).drop (k + 1) = L.drop (k + 1) := by
  have hg : L'.getD k 0 = L.getD k 0 := by
    have h1 := getD_drop L' k 0
    have h2 := getD_drop L k 0
    rw [Nat.add_zero] at h1 h2
    rw [← h1, ← h2, hd]
  rw [hg] at hs
  constructor
  · rw [val_take_set L' k s hk, val_take_succ L, val_take_succ Y, Nat.pow_succ]
    generalize 4294967296 ^ k = P at *
    grind
  · rw [drop_set_gt L' k (k + 1) s (by omega)]
    have := congrArg (List.drop 1) hd
    rwa [List.drop_drop, List.drop_drop] at this

theorem sub_end (L L' Y : List Nat) (n c : Nat) (hL' : W32 L') (hl : L'.length = n) (hl2 : L.length = n) (hY : Y.length ≤ n) (hle : val Y ≤ val L)
    (hi : val (L'.take n) + val (Y.take n) = val (L.take n) + c * 4294967296 ^ n) : val L' + val Y = val L := by
  rw [List.take_of_length_le (by omega), List.take_of_length_le hY, List.take_of_length_le (by omega)] at hi
  have h1 := val_lt hL'
  rw [hl] at h1
  rcases Nat.eq_zero_or_pos c with h0 | h0
  · subst h0; omega
  · have : 1 * 4294967296 ^ n ≤ c * 4294967296 ^ n := Nat.mul_le_mul_right _ h0
    omega

theorem sub_early (L L' Y : List Nat) (k : Nat) (hl : L'.length = L.length) (hk : k ≤ L.length) (hd : L'.drop k = L.drop k) (hY : Y.length ≤ k)
    (hi : val (L'.take k) + val (Y.take k) = val (L.take k) + 0 * 4294967296 ^ k) : val L' + val Y = val L := by
  rw [List.take_of_length_le hY] at hi
  rw [val_split L' k (by omega), val_split L k hk, hd]
  omega

/-! ### Products -/
theorem blen_words_le {n k : Nat} (h : (dig n).length ≤ k) : blen n ≤ 32 * k := by
  rw [blen_lt, ← pow32, ← dig_length_le]; exact h
theorem blen_le_words {n : Nat} (h : (dig n).length ≤ 16384) : blen n ≤ 524288 := blen_words_le h
def nmul (a b : Nat) : List Nat × Int := if long a || long b || decide (524289 < blen a + blen b) then ([], 2) else fit (a * b)

/-- A step of a row of a product: carry + x y + u = s + 2^32 carry'. -/
theorem mul_step (L : List Nat) (p c u s c' V x y M : Nat) (hp : p < L.length) (hu : L.getD p 0 = u)
    (hi : val L + c * 4294967296 ^ p = V) (hs : c + x * y + u = s + 4294967296 * c') :
    val (L.set p s) + c' * 4294967296 ^ (p + 1) = V + x * y * 4294967296 ^ p := by
  have h := val_set hp s
  rw [hu] at h
  rw [Nat.pow_succ]
  generalize 4294967296 ^ p = P at *
  grind

theorem getD_zeros (n p : Nat) : (List.replicate n 0).getD p 0 = 0 := by
  rw [List.getD_eq_getElem?_getD, List.getElem?_replicate]; split <;> rfl

/-- A row of a product goes one word on. -/
theorem mul_inner (L X : List Nat) (j i c u s c' V0 x y : Nat) (hp : j + i < L.length) (hu : L.getD (j + i) 0 = u) (hx : X.getD i 0 = x)
    (hi : val L + c * 4294967296 ^ (j + i) = V0 + y * val (X.take i) * 4294967296 ^ j) (hs : c + x * y + u = s + 4294967296 * c') :
    val (L.set (j + i) s) + c' * 4294967296 ^ (j + (i + 1)) = V0 + y * val (X.take (i + 1)) * 4294967296 ^ j := by
  have h := mul_step L (j + i) c u s c' _ x y 0 hp hu hi hs
  rw [← Nat.add_assoc, h, val_take_succ, hx, Nat.pow_add]
  generalize 4294967296 ^ i = P
  generalize 4294967296 ^ j = Q
  grind

/-- A row of a product is laid. -/
theorem mul_outer (L X Y : List Nat) (j n c V0 y : Nat) (hp : j + n < L.length) (hz : L.getD (j + n) 0 = 0) (hn : X.length = n) (hy : Y.getD j 0 = y)
    (hV : V0 = val X * val (Y.take j))
    (hi : val L + c * 4294967296 ^ (j + n) = V0 + y * val (X.take n) * 4294967296 ^ j) :
    val (L.set (j + n) c) = val X * val (Y.take (j + 1)) := by
  have h := val_set hp c
  rw [hz] at h
  rw [List.take_of_length_le (by omega)] at hi
  rw [val_take_succ, hy]
  subst hV
  generalize 4294967296 ^ (j + n) = P at *
  generalize 4294967296 ^ j = Q at *
  grind

end Verge
