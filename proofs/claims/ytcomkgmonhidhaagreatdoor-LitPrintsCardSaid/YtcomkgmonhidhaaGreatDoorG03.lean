/- Layer 5: plain words on decimal and hexadecimal digits, and on texts. -/
import Derived.Test.YtcomkgmonhidhaaGreatDoorG02
import Derived.Lib.ItoaNum
namespace Go.Proofs.YtcomkgmonhidhaaGreatDoor
set_option linter.unusedVariables false
set_option linter.unusedSimpArgs false
open Go.RowKit Verge

/-- A text of bytes. -/
def bs (l : List UInt8) : ByteArray := ⟨l.toArray⟩
theorem bs_append (a b : List UInt8) : bs a ++ bs b = bs (a ++ b) := by
  apply ByteArray.ext
  simp [bs]
theorem bs_size (a : List UInt8) : (bs a).size = a.length := by simp [bs, ByteArray.size]
theorem bs_inj {a b : List UInt8} : bs a = bs b ↔ a = b := by
  constructor
  · intro h
    have := congrArg (fun x => x.data.toList) h
    simpa [bs] using this
  · rintro rfl; rfl
theorem bs_list (a : List UInt8) : (bs a).data.toList = a := by simp [bs]

/-- A number's decimal digits; none of 0. -/
def txt (n : Nat) : List UInt8 := if n = 0 then [] else Lib.decDigits n
theorem txt_zero : txt 0 = [] := rfl
theorem txt_step {n : Nat} (h : 0 < n) : txt n = txt (n / 10) ++ [UInt8.ofNat (48 + n % 10)] := by
  unfold txt
  rw [if_neg (by omega)]
  rw [Lib.decDigits]
  by_cases h1 : n < 10
  · rw [dif_pos h1, if_pos (by omega), Nat.mod_eq_of_lt h1]; rfl
  · rw [dif_neg h1, if_neg (by omega)]
/-- A chunk of nine digits under way: q is what stands above, r what is left of the chunk, j digits of it are to come. -/
def chunk (q r j : Nat) : Nat := q * 10 ^ j + r
theorem chunk_step {q r j : Nat} (hr : r < 10 ^ (j + 1)) : chunk q r (j + 1) / 10 = chunk q (r / 10) j ∧ chunk q r (j + 1) % 10 = r % 10 ∧ r / 10 < 10 ^ j := by
  unfold chunk
  rw [Nat.pow_succ] at *
  refine ⟨?_, ?_, ?_⟩
  · rw [show q * (10 ^ j * 10) + r = r + 10 * (q * 10 ^ j) by rw [← Nat.mul_assoc, Nat.mul_comm 10]; omega, Nat.add_mul_div_left _ _ (by omega)]; omega
  · rw [show q * (10 ^ j * 10) + r = r + 10 * (q * 10 ^ j) by rw [← Nat.mul_assoc, Nat.mul_comm 10]; omega, Nat.add_mul_mod_self_left]
  · omega
theorem chunk_pos {q r j : Nat} : 0 < chunk q r j ↔ 0 < q ∨ 0 < r := by
  unfold chunk
  have h : 0 < 10 ^ j := Nat.pow_pos (by omega)
  constructor
  · intro h'
    rcases Nat.eq_zero_or_pos q with e | e
    · right; rw [e] at h'; omega
    · exact .inl e
  · rintro (h' | h')
    · have := Nat.mul_pos h' h; omega
    · omega
theorem chunk_end (q : Nat) : chunk q 0 0 = q := by unfold chunk; omega
theorem chunk_all (N : Nat) : chunk (N / 1000000000) (N % 1000000000) 9 = N := by
  unfold chunk
  rw [show (10 : Nat) ^ 9 = 1000000000 from rfl]
  omega

/-- A hexadecimal digit. -/
def hexc (d : Nat) : UInt8 := UInt8.ofNat (if d < 10 then 48 + d else 87 + d)
/-- The digits of the 52 bits behind the point, without noughts at the end. -/
def hexs : Nat → Nat → List UInt8
  | 0, _ => []
  | n + 1, v => if v = 0 then [] else hexc (v / 281474976710656) :: hexs n (v % 281474976710656 * 16)
theorem hexs_zero (n : Nat) : hexs n 0 = [] := by cases n <;> rfl
theorem hexs_pos {n v : Nat} (h : 0 < v) : hexs (n + 1) v = hexc (v / 281474976710656) :: hexs n (v % 281474976710656 * 16) := by
  show (if v = 0 then [] else _) = _
  rw [if_neg (by omega)]
/-- v has at most n digits. -/
def hexn (n v : Nat) : Prop := v < 4503599627370496 ∧ 2 ^ (52 - 4 * n) ∣ v
theorem hexn_13 {v : Nat} (h : v < 4503599627370496) : hexn 13 v := ⟨h, by simp⟩
theorem hexn_zero {v : Nat} (h : hexn 0 v) : v = 0 := by
  obtain ⟨h1, h2⟩ := h
  obtain ⟨c, hc⟩ := h2
  have : (2 : Nat) ^ (52 - 4 * 0) = 4503599627370496 := by decide
  rw [this] at hc
  rcases Nat.eq_zero_or_pos c with e | e
  · rw [e] at hc; omega
  · omega
theorem hexn_step {n v : Nat} (hn : n < 13) (h : hexn (n + 1) v) : hexn n (v % 281474976710656 * 16) ∧ v / 281474976710656 < 16 := by
  obtain ⟨h1, h2⟩ := h
  refine ⟨⟨by omega, ?_⟩, by omega⟩
  have e : 52 - 4 * n = (52 - 4 * (n + 1)) + 4 := by omega
  rw [e, Nat.pow_add]
  refine Nat.mul_dvd_mul ?_ (by decide)
  have h3 : 2 ^ (52 - 4 * (n + 1)) ∣ 281474976710656 := by
    rw [show (281474976710656 : Nat) = 2 ^ 48 by decide]
    exact Nat.pow_dvd_pow 2 (by omega)
  exact (Nat.dvd_mod_iff h3).2 h2
end Go.Proofs.YtcomkgmonhidhaaGreatDoor
