/- Contracts of vergeref2's ratios: RNeg. -/
import Derived.Test.YtiadjcilfljdaaaGreatDoorG11
import Derived.Test.YtiadjcilfljdaaaGreatDoorG14
import Derived.Test.YtiadjcilfljdaaaGreatDoorG07
import Derived.Test.YtiadjcilfljdaaaGreatDoorG02
import Derived.Lib.ItoaNum
section
namespace Go.Proofs.YtiadjcilfljdaaaGreatDoor
set_option linter.unusedVariables false
set_option linter.unusedSimpArgs false
open Go.RowKit Verge

section
variable (s : Bool) (X Y : List Nat) (va vb : Value) (w : World)
end
end Go.Proofs.YtiadjcilfljdaaaGreatDoor

/- Contracts of vergeref2's ratios: RAdd, RSub, RMul, RQuo. -/
namespace Go.Proofs.YtiadjcilfljdaaaGreatDoor
set_option linter.unusedVariables false
set_option linter.unusedSimpArgs false
open Go.RowKit Verge

/-- The sum of two signed numbers: its sign and its size. -/
def addS (s : Bool) (x : Nat) (t : Bool) (y : Nat) : Bool × Nat := if s = t then (s, x + y) else if y ≤ x then (s, x - y) else (t, y - x)

section
variable {s t : Bool} {X Y U V : List Nat} {va vb : Value} {w : World}

end
end Go.Proofs.YtiadjcilfljdaaaGreatDoor

/- Vergeref2's ratios by what they mean: p by q. -/
namespace Go.Proofs.YtiadjcilfljdaaaGreatDoor
set_option linter.unusedVariables false
set_option linter.unusedSimpArgs false
open Go.RowKit Verge

def sv (s : Bool) (n : Nat) : Int := if s then -(n : Int) else n
/-- A ratio that is p by q; its lists have at most k words. -/
def IsRV (p : Int) (q : Nat) (k : Nat) (v : Value) (w : World) : Prop := ∃ s X Y, IsR s X Y v w ∧ 0 < q ∧ 0 < val Y ∧ sv s (val X) * q = p * val Y ∧ X.length ≤ k ∧ Y.length ≤ k
theorem IsRV.mono (p : Int) (q k : Nat) : Mono (IsRV p q k) := fun _ _ _ hb ⟨s, X, Y, h, r⟩ => ⟨s, X, Y, IsR.mono _ _ _ _ _ _ hb h, r⟩
theorem IsRV.eqv {p p' : Int} {q q' k : Nat} {v : Value} {w : World} (h : IsRV p q k v w) (hq' : 0 < q') (e : p * q' = p' * q) : IsRV p' q' k v w := by
  obtain ⟨s, X, Y, hr, hq, hy, hs, h1, h2⟩ := h
  refine ⟨s, X, Y, hr, hq', hy, ?_, h1, h2⟩
  have hq0 : (q : Int) ≠ 0 := by omega
  refine Int.eq_of_mul_eq_mul_right hq0 ?_
  rw [Int.mul_assoc, Int.mul_comm (q' : Int), ← Int.mul_assoc, hs]
  rw [show p * (val Y : Int) * q' = p * q' * val Y by rw [Int.mul_assoc, Int.mul_assoc, Int.mul_comm (q' : Int)], e]
  rw [Int.mul_assoc, Int.mul_assoc, Int.mul_comm (q : Int)]
theorem IsRV.le {p : Int} {q k k' : Nat} {v : Value} {w : World} (h : IsRV p q k v w) (hk : k ≤ k') : IsRV p q k' v w := by
  obtain ⟨s, X, Y, hr, hq, hy, hs, h1, h2⟩ := h
  exact ⟨s, X, Y, hr, hq, hy, hs, by omega, by omega⟩

theorem fracN_le (n d : Nat) : fracN n d 0 ≤ n := by
  unfold fracN
  split
  · omega
  · rename_i h
    have : (fracE n d 0).toNat ≤ ntz n := by unfold fracE; omega
    have h2 := Nat.pow_le_pow_right (n := 2) (by omega) this
    exact Nat.le_trans (Nat.mul_le_mul_left _ h2) (Nat.div_mul_le_self n _)
theorem fracD_le (n d : Nat) (hd : 0 < d) : fracD n d 0 ≤ d := by
  unfold fracD
  split
  · omega
  · rename_i h
    have : (-(fracE n d 0)).toNat ≤ ntz d := by unfold fracE; omega
    have h2 := Nat.pow_le_pow_right (n := 2) (by omega) this
    exact Nat.le_trans (Nat.mul_le_mul_left _ h2) (Nat.div_mul_le_self d _)
theorem frac0 (n d : Nat) (hd : d ≠ 0) : fracN n d 0 * d = n * fracD n d 0 := by
  have := frac_val n d 0 hd 0 (by omega)
  simpa using this
theorem sv_and {s : Bool} {n m d e : Nat} (h : m * d = n * e) (hd : 0 < d) : sv (s && decide (n ≠ 0)) m * d = sv s n * e := by
  by_cases h0 : n = 0
  · subst h0
    rw [Nat.zero_mul] at h
    have : m = 0 := by
      rcases Nat.mul_eq_zero.1 h with h | h <;> omega
    subst this
    simp [sv]
  · have hm : ((m : Int) * d) = n * e := by exact_mod_cast h
    cases s
    · simpa [sv] using hm
    · simp only [h0, ne_eq, not_false_eq_true, decide_true, Bool.and_true, sv, if_true]
      rw [Int.neg_mul, Int.neg_mul, hm]
theorem addS_sv (s : Bool) (x : Nat) (t : Bool) (y : Nat) : sv (addS s x t y).1 (addS s x t y).2 = sv s x + sv t y := by
  unfold addS sv
  by_cases h : y ≤ x
  · cases s <;> cases t <;> simp [h] <;> omega
  · cases s <;> cases t <;> simp [h] <;> omega
theorem sv_mul (s : Bool) (x y : Nat) : sv s (x * y) = sv s x * y := by
  unfold sv; cases s <;> simp [Int.neg_mul]
theorem sv_not (s : Bool) (x : Nat) : sv (!s) x = -sv s x := by unfold sv; cases s <;> simp
theorem sv_neg0 {s : Bool} {x n : Nat} (h : x ≠ 0 → 0 < n) : sv (!s && decide (0 < n)) x = -sv s x := by
  by_cases hx : x = 0
  · subst hx; unfold sv; cases s <;> simp
  · rw [decide_eq_true (h hx), Bool.and_true, sv_not]
theorem val_nil_of {X : List Nat} (h : val X ≠ 0) : 0 < X.length := by
  cases X with
  | nil => simp [val] at h
  | cons => simp

section
variable {p p' : Int} {q q' k k' : Nat} {va vb : Value} {w : World}

theorem add_parts {s t : Bool} {x y u v : Nat} (hy : 0 < y) (hv : 0 < v) (ha : sv s x * q = p * y) (hb : sv t u * q' = p' * v) (S : Bool × Nat) (hS : sv S.1 S.2 = sv s (x * v) + sv t (u * y)) :
    sv (S.1 && decide (S.2 ≠ 0)) (fracN S.2 (y * v) 0) * ((q * q' : Nat) : Int) = (p * q' + p' * q) * (fracD S.2 (y * v) 0 : Nat) := by
  have hyv : 0 < y * v := Nat.mul_pos hy hv
  have h0 := frac0 S.2 (y * v) (by omega)
  have h1 := sv_and (s := S.1) h0 hyv
  refine Int.eq_of_mul_eq_mul_right (a := ((y * v : Nat) : Int)) (by omega) ?_
  rw [show sv (S.1 && decide (S.2 ≠ 0)) (fracN S.2 (y * v) 0) * ((q * q' : Nat) : Int) * ((y * v : Nat) : Int) = sv (S.1 && decide (S.2 ≠ 0)) (fracN S.2 (y * v) 0) * ((y * v : Nat) : Int) * ((q * q' : Nat) : Int) by grind]
  rw [h1, hS, sv_mul, sv_mul]
  obtain ⟨D, hD⟩ : ∃ D, fracD S.2 (y * v) 0 = D := ⟨_, rfl⟩
  rw [hD]
  push_cast
  rw [show (sv s x * (v : Int) + sv t u * y) * D * (q * q') = ((sv s x * q) * (v * q') + (sv t u * q') * (y * q)) * D by grind, ha, hb]
  grind

theorem mul_parts {s t : Bool} {x y u v : Nat} (hy : 0 < y) (hv : 0 < v) (ha : sv s x * q = p * y) (hb : sv t u * q' = p' * v) :
    sv ((s != t) && decide (x * u ≠ 0)) (fracN (x * u) (y * v) 0) * ((q * q' : Nat) : Int) = (p * p') * (fracD (x * u) (y * v) 0 : Nat) := by
  have hyv : 0 < y * v := Nat.mul_pos hy hv
  have h0 := frac0 (x * u) (y * v) (by omega)
  have h1 := sv_and (s := (s != t)) h0 hyv
  refine Int.eq_of_mul_eq_mul_right (a := ((y * v : Nat) : Int)) (by omega) ?_
  rw [show sv ((s != t) && decide (x * u ≠ 0)) (fracN (x * u) (y * v) 0) * ((q * q' : Nat) : Int) * ((y * v : Nat) : Int) = sv ((s != t) && decide (x * u ≠ 0)) (fracN (x * u) (y * v) 0) * ((y * v : Nat) : Int) * ((q * q' : Nat) : Int) by grind]
  have h2 : sv (s != t) (x * u) = sv s x * sv t u := by unfold sv; cases s <;> cases t <;> simp [Int.neg_mul, Int.mul_neg]
  rw [h1, h2]
  obtain ⟨D, hD⟩ : ∃ D, fracD (x * u) (y * v) 0 = D := ⟨_, rfl⟩
  rw [hD]
  push_cast
  rw [show sv s x * sv t u * (D : Int) * (q * q') = (sv s x * q) * (sv t u * q') * D by grind, ha, hb]
  grind
/-- -1, 0 or 1. -/
def isgn (p : Int) : Int := if p < 0 then -1 else if p = 0 then 0 else 1
def icmp (a b : Int) : Int := if a < b then -1 else if a = b then 0 else 1
theorem sgn_mul {a : Int} {b : Nat} (hb : 0 < b) : (0 < a * b ↔ 0 < a) ∧ (a * b < 0 ↔ a < 0) ∧ (a * b = 0 ↔ a = 0) := by
  have hb' : (0 : Int) < b := by omega
  refine ⟨⟨fun h => ?_, fun h => Int.mul_pos h hb'⟩, ⟨fun h => ?_, fun h => Int.mul_neg_of_neg_of_pos h hb'⟩, ⟨fun h => ?_, fun h => by rw [h, Int.zero_mul]⟩⟩
  · rcases ilt_or_ge 0 a with h1 | h1
    · exact h1
    · have := Int.mul_nonneg (show 0 ≤ -a by omega) (show (0 : Int) ≤ b by omega)
      rw [Int.neg_mul] at this; omega
  · rcases ilt_or_ge a 0 with h1 | h1
    · exact h1
    · have := Int.mul_nonneg h1 (show (0 : Int) ≤ b by omega); omega
  · rcases Int.mul_eq_zero.1 h with h | h <;> omega
theorem rsgn_sv (s : Bool) (n : Nat) : rsgn s n = isgn (sv s n) := by
  unfold rsgn isgn sv
  cases s <;> (by_cases h : n = 0) <;> simp [h] <;> omega
theorem cmp_icmp (x y : Nat) : cmp x y = icmp x y := by
  rcases Nat.lt_trichotomy x y with h | h | h
  · unfold cmp icmp
    have : (x : Int) < y := by omega
    simp [h]
  · subst h; unfold cmp icmp; simp
  · have h1 : ¬ x < y := by omega
    have h2 : ¬ (x : Int) = y := by omega
    have h3 : ¬ x = y := by omega
    unfold cmp icmp
    rw [if_neg h1, if_pos h, if_neg (by omega), if_neg h2]
theorem rcmp_sv (s : Bool) (x y : Nat) (t : Bool) (u v : Nat) (hy : 0 < y) (hv : 0 < v) : rcmp s x y t u v = icmp (sv s x * v) (sv t u * y) := by
  unfold rcmp
  rw [cmp_icmp, rsgn_sv, rsgn_sv]
  have a1 := sgn_mul (a := sv s x) hv
  have a2 := sgn_mul (a := sv t u) hy
  have e1 : sv s x * v = sv s (x * v) := (sv_mul s x v).symm
  have e2 : sv t u * y = sv t (u * y) := (sv_mul t u y).symm
  by_cases hlt : isgn (sv s x) < isgn (sv t u)
  · rw [if_pos hlt]
    unfold icmp
    rw [if_pos]
    unfold isgn at hlt
    clear e1 e2
    obtain ⟨a11, a12, a13⟩ := a1
    obtain ⟨a21, a22, a23⟩ := a2
    generalize sv s x * (v : Int) = A at *
    generalize sv t u * (y : Int) = B at *
    generalize sv s x = a at *
    generalize sv t u = b at *
    split at hlt <;> (try split at hlt) <;> (try split at hlt) <;> omega
  · rw [if_neg hlt]
    by_cases hgt : isgn (sv t u) < isgn (sv s x)
    · rw [if_pos hgt]
      unfold icmp
      have h : sv t u * y < sv s x * v := by
        unfold isgn at hgt
        obtain ⟨a11, a12, a13⟩ := a1
        obtain ⟨a21, a22, a23⟩ := a2
        clear e1 e2 hlt
        generalize sv s x * (v : Int) = A at *
        generalize sv t u * (y : Int) = B at *
        generalize sv s x = a at *
        generalize sv t u = b at *
        split at hgt <;> (try split at hgt) <;> (try split at hgt) <;> omega
      rw [if_neg (by omega), if_neg (by omega)]
    · rw [if_neg hgt]
      have heq : isgn (sv s x) = isgn (sv t u) := by omega
      by_cases hx : x = 0
      · rw [if_pos hx]
        subst hx
        have h0 : sv s 0 = 0 := by unfold sv; cases s <;> rfl
        have h1 : sv t u = 0 := by
          rw [h0] at heq
          unfold isgn at heq
          split at heq <;> (try split at heq) <;> (try split at heq) <;> omega
        rw [h0, h1]; simp [icmp]
      · rw [if_neg hx, e1, e2]
        have hst : s = t := by
          unfold isgn sv at heq
          cases s <;> cases t <;> simp at heq ⊢ <;> (try split at heq) <;> (try split at heq) <;> (try split at heq) <;> omega
        subst hst
        unfold icmp sv
        cases s
        · simp
        · simp only [if_true]
          generalize x * v = A
          generalize u * y = B
          split <;> (try split) <;> (try split) <;> (try split) <;> omega
theorem sgn_mul' {a m : Int} (hm : 0 < m) : a * m < 0 ↔ a < 0 := by
  have := (sgn_mul (a := a) (b := m.toNat) (by omega)).2.1
  rwa [show ((m.toNat : Nat) : Int) = m by omega] at this
/-- Units of the least number. -/
def KU : Nat := 1074
def UQ : Nat := 2 ^ KU
theorem UQ_pos : 0 < UQ := Nat.two_pow_pos _
end
end Go.Proofs.YtiadjcilfljdaaaGreatDoor
end

section
namespace Go.Proofs.YtiadjcilfljdaaaGreatDoor
set_option linter.unusedVariables false
set_option linter.unusedSimpArgs false
open Go.RowKit Verge

/-- A text of bytes. -/
def bs (l : List UInt8) : ByteArray := ⟨l.toArray⟩
theorem bs_append (a b : List UInt8) : bs a ++ bs b = bs (a ++ b) := by
  apply ByteArray.ext
  simp [bs]
theorem bs_size (a : List UInt8) : (bs a).size = a.length := by simp [bs, ByteArray.size]
theorem bs_inj {a b : List UInt8} : bs a = bs b ↔ a = b := by
  constructor
  · intro h
    have := congrArg (fun x => x.data.toList) h
    simpa [bs] using this
  · rintro rfl; rfl
theorem bs_list (a : List UInt8) : (bs a).data.toList = a := by simp [bs]

/-- A number's decimal digits; none of 0. -/
def txt (n : Nat) : List UInt8 := if n = 0 then [] else Lib.decDigits n
theorem txt_zero : txt 0 = [] := rfl
theorem txt_step {n : Nat} (h : 0 < n) : txt n = txt (n / 10) ++ [UInt8.ofNat (48 + n % 10)] := by
  unfold txt
  rw [if_neg (by omega)]
  rw [Lib.decDigits]
  by_cases h1 : n < 10
  · rw [dif_pos h1, if_pos (by omega), Nat.mod_eq_of_lt h1]; rfl
  · rw [dif_neg h1, if_neg (by omega)]
/-- A chunk of nine digits under way: q is what stands above, r what is left of the chunk, j digits of it are to come. -/
def chunk (q r j : Nat) : Nat := q * 10 ^ j + r
theorem chunk_step {q r j : Nat} (hr : r < 10 ^ (j + 1)) : chunk q r (j + 1) / 10 = chunk q (r / 10) j ∧ chunk q r (j + 1) % 10 = r % 10 ∧ r / 10 < 10 ^ j := by
  unfold chunk
  rw [Nat.pow_succ] at *
  refine ⟨?_, ?_, ?_⟩
  · rw [show q * (10 ^ j * 10) + r = r + 10 * (q * 10 ^ j) by rw [← Nat.mul_assoc, Nat.mul_comm 10]; omega, Nat.add_mul_div_left _ _ (by omega)]; omega
  · rw [show q * (10 ^ j * 10) + r = r + 10 * (q * 10 ^ j) by rw [← Nat.mul_assoc, Nat.mul_comm 10]; omega, Nat.add_mul_mod_self_left]
  · omega
theorem chunk_pos {q r j : Nat} : 0 < chunk q r j ↔ 0 < q ∨ 0 < r := by
  unfold chunk
  have h : 0 < 10 ^ j := Nat.pow_pos (by omega)
  constructor
  · intro h'
    rcases Nat.eq_zero_or_pos q with e | e
    · right; rw [e] at h'; omega
    · exact .inl e
  · rintro (h' | h')
    · have := Nat.mul_pos h' h; omega
    · omega
theorem chunk_end (q : Nat) : chunk q 0 0 = q := by unfold chunk; omega
theorem chunk_all (N : Nat) : chunk (N / 1000000000) (N % 1000000000) 9 = N := by
  unfold chunk
  rw [show (10 : Nat) ^ 9 = 1000000000 from rfl]
  omega

/-- A hexadecimal digit. -/
def hexc (d : Nat) : UInt8 := UInt8.ofNat (if d < 10 then 48 + d else 87 + d)
/-- The digits of the 52 bits behind the point, without noughts at the end. -/
def hexs : Nat → Nat → List UInt8
  | 0, _ => []
  | n + 1, v => if v = 0 then [] else hexc (v / 281474976710656) :: hexs n (v % 281474976710656 * 16)
theorem hexs_zero (n : Nat) : hexs n 0 = [] := by cases n <;> rfl
theorem hexs_pos {n v : Nat} (h : 0 < v) : hexs (n + 1) v = hexc (v / 281474976710656) :: hexs n (v % 281474976710656 * 16) := by
  show (if v = 0 then [] else _) = _
  rw [if_neg (by omega)]
/-- v has at most n digits. -/
def hexn (n v : Nat) : Prop := v < 4503599627370496 ∧ 2 ^ (52 - 4 * n) ∣ v
theorem hexn_13 {v : Nat} (h : v < 4503599627370496) : hexn 13 v := ⟨h, by simp⟩
theorem hexn_zero {v : Nat} (h : hexn 0 v) : v = 0 := by
  obtain ⟨h1, h2⟩ := h
  obtain ⟨c, hc⟩ := h2
  have : (2 : Nat) ^ (52 - 4 * 0) = 4503599627370496 := by decide
  rw [this] at hc
  rcases Nat.eq_zero_or_pos c with e | e
  · rw [e] at hc; omega
  · omega
theorem hexn_step {n v : Nat} (hn : n < 13) (h : hexn (n + 1) v) : hexn n (v % 281474976710656 * 16) ∧ v / 281474976710656 < 16 := by
  obtain ⟨h1, h2⟩ := h
  refine ⟨⟨by omega, ?_⟩, by omega⟩
  have e : 52 - 4 * n = (52 - 4 * (n + 1)) + 4 := by omega
  rw [e, Nat.pow_add]
  refine Nat.mul_dvd_mul ?_ (by decide)
  have h3 : 2 ^ (52 - 4 * (n + 1)) ∣ 281474976710656 := by
    rw [show (281474976710656 : Nat) = 2 ^ 48 by decide]
    exact Nat.pow_dvd_pow 2 (by omega)
  exact (Nat.dvd_mod_iff h3).2 h2
end Go.Proofs.YtiadjcilfljdaaaGreatDoor
end
