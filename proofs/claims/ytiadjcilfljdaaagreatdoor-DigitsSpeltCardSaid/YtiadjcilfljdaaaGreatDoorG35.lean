/- Layer 5, plain: what Short's loops reckon. -/
import Derived.Test.YtiadjcilfljdaaaGreatDoorG29
import Derived.Test.YtiadjcilfljdaaaGreatDoorG34
namespace Go.Proofs.YtiadjcilfljdaaaGreatDoor
set_option linter.unusedVariables false
set_option linter.unusedSimpArgs false
open Go.RowKit Verge

theorem mg_bounds (b : Nat) (hF : fbF b ≠ 0) : (0 < mgR b ∧ 0 < mgS b ∧ 0 < mgM b ∧ 0 < mgL b) ∧ blen (mgR b) ≤ 1100 ∧ blen (mgS b) ≤ 1100 ∧ blen (mgM b) ≤ 1100 ∧ blen (mgL b) ≤ 1100 := by
  have hFb := fbF_blen b
  have hE : fbE b ≤ 2047 := by unfold fbE; omega
  have hp : ∀ e : Nat, blen (2 ^ e) = e + 1 := fun e => blen_of _ _ (Nat.le_refl _) (Nat.pow_lt_pow_right (by omega) (by omega))
  have h4 : blen 4 ≤ 3 := (blen_lt _ _).2 (by decide)
  have h2 : blen 2 ≤ 2 := (blen_lt _ _).2 (by decide)
  have h1 : blen 1 ≤ 1 := (blen_lt _ _).2 (by decide)
  have c42 : blen (if mgE b = true then 4 else 2) ≤ 3 := by split <;> omega
  have c21 : blen (if mgE b = true then 2 else 1) ≤ 2 := by split <;> omega
  have p42 : 0 < (if mgE b = true then 4 else 2) := by split <;> omega
  have p21 : 0 < (if mgE b = true then 2 else 1) := by split <;> omega
  have hx : ((fbE b : Int) - 1074).toNat ≤ 1000 := by omega
  have hy : (-((fbE b : Int) - 1074)).toNat ≤ 1074 := by omega
  unfold mgR mgS mgM mgL
  generalize ((fbE b : Int) - 1074).toNat = x at *
  generalize (-((fbE b : Int) - 1074)).toNat = y at *
  refine ⟨⟨Nat.mul_pos (Nat.mul_pos p42 (Nat.pos_of_ne_zero hF)) (Nat.two_pow_pos _), Nat.mul_pos p42 (Nat.two_pow_pos _), Nat.mul_pos p21 (Nat.two_pow_pos _), Nat.two_pow_pos _⟩, ?_, ?_, ?_, ?_⟩
  · have := blen_mul_le (blen_mul_le c42 hFb) (Nat.le_of_eq (hp x)); omega
  · have := blen_mul_le c42 (Nat.le_of_eq (hp y)); omega
  · have := blen_mul_le c21 (Nat.le_of_eq (hp x)); omega
  · have := hp x; omega
theorem ten_lt {k : Nat} {x : Nat} (h : 10 ^ k ≤ x) (hx : blen x ≤ 1110) : k < 336 := by
  have h4 := pow_336
  obtain ⟨z, hz⟩ : ∃ z, z = 336 := ⟨_, rfl⟩
  obtain ⟨y, hy⟩ : ∃ y, y = 1116 := ⟨_, rfl⟩
  rw [← hy, ← hz] at h4
  have h3 := (blen_lt x y).1 (by omega)
  refine Classical.byContradiction fun hc => ?_
  have h5 : (10 : Nat) ^ z ≤ 10 ^ k := Nat.pow_le_pow_right (by omega) (by omega)
  omega
theorem blen_add {x y m : Nat} (hx : blen x ≤ m) (hy : blen y ≤ m) : blen (x + y) ≤ m + 1 := by
  refine (blen_lt _ _).2 ?_
  have h1 := (blen_lt x m).1 hx
  have h2 := (blen_lt y m).1 hy
  rw [Nat.pow_succ]; omega
theorem hi_up {R S M k : Nat} {ev : Bool} (h : hiB R (S * 10 ^ k) M ev = true) (hS : 0 < S) (hR : blen R ≤ 1100) (hM : blen M ≤ 1100) : k < 336 := by
  have h1 := of_decide_eq_true h
  have h2 := Nat.mul_le_mul hS (Nat.le_refl (10 ^ k))
  refine ten_lt (x := R + M) (by omega) (Nat.le_trans (blen_add hR hM) (by omega))
theorem hi_dn {R S M j : Nat} {ev : Bool} (h : hiB (R * 10 ^ j * 10) S (M * 10 ^ j * 10) ev = false) (hR : 0 < R) (hS : blen S ≤ 1100) : j < 336 := by
  have h1 := of_decide_eq_false h
  have h2 := Nat.mul_le_mul hR (Nat.le_refl (10 ^ j))
  refine ten_lt (x := S) (by omega) (by omega)
theorem lo_end {L S r i k : Nat} {ev : Bool} (h : loB r (L * 10 ^ i) ev = false) (hr : r < S * 10 ^ k) (hL : 0 < L) (hS : blen S ≤ 1100) (hk : k ≤ 400) : i < 736 := by
  have h1 := of_decide_eq_false h
  have h2 := Nat.mul_le_mul hL (Nat.le_refl (10 ^ i))
  have a4 := pow_336
  obtain ⟨z, hz⟩ : ∃ z, z = 336 := ⟨_, rfl⟩
  obtain ⟨y, hy⟩ : ∃ y, y = 1116 := ⟨_, rfl⟩
  rw [← hy, ← hz] at a4
  have a3 := (blen_lt S y).1 (by omega)
  refine Classical.byContradiction fun hc => ?_
  have h3 : (10 : Nat) ^ (z + 400) ≤ 10 ^ i := Nat.pow_le_pow_right (by omega) (by omega)
  obtain ⟨q, hq⟩ : ∃ q, q = 400 := ⟨_, rfl⟩
  rw [← hq] at h3 hk
  have h5 : S * 10 ^ k ≤ 10 ^ z * 10 ^ q := Nat.mul_le_mul (by omega) (Nat.pow_le_pow_right (by omega) hk)
  rw [Nat.pow_add] at h3
  generalize (10 : Nat) ^ z * 10 ^ q = p at *
  omega
/-- The margins, scaled by the power of ten. -/
def sR (b : Nat) (k : Int) : Nat := mgR b * 10 ^ (-k).toNat
def sS (b : Nat) (k : Int) : Nat := mgS b * 10 ^ k.toNat
def sM (b : Nat) (k : Int) : Nat := mgM b * 10 ^ (-k).toNat
def sL (b : Nat) (k : Int) : Nat := mgL b * 10 ^ (-k).toNat
/-- The digits so far, and what is left of them. -/
def sP (b : Nat) (k : Int) (i : Nat) : Nat := sR b k * 10 ^ i / sS b k
def sQ (b : Nat) (k : Int) (i : Nat) : Nat := sR b k * 10 ^ i % sS b k
def sHi (b : Nat) (k : Int) (i : Nat) : Bool := hiB (sQ b k i) (sS b k) (sM b k * 10 ^ i) (mgV b)
def sLo (b : Nat) (k : Int) (i : Nat) : Bool := loB (sQ b k i) (sL b k * 10 ^ i) (mgV b)
/-- Does the last digit go up? -/
def sUp (b : Nat) (k : Int) (i : Nat) : Bool := sHi b k i && (!sLo b k i || decide (sS b k < sQ b k i * 2 ∨ sQ b k i * 2 = sS b k ∧ sP b k i % 2 = 1))
def sF (b : Nat) (k : Int) (i : Nat) : Nat := if sUp b k i = true then sP b k i + 1 else sP b k i
/-- The place where Short's digits begin, and their number. -/
structure ShtOk (b : Nat) (k : Int) (i : Nat) : Prop where
  k1 : -400 ≤ k
  k2 : k ≤ 400
  i1 : 1 ≤ i
  i2 : i ≤ 800
  top : hiB (sR b k) (sS b k) (sM b k) (mgV b) = false
  low : hiB (sR b k * 10) (sS b k) (sM b k * 10) (mgV b) = true
  run : ∀ j, 1 ≤ j → j < i → sHi b k j = false ∧ sLo b k j = false
  stop : sHi b k i = true ∨ sLo b k i = true
/-- One digit more. -/
theorem sP_step (b : Nat) (k : Int) (i : Nat) (hS : 0 < sS b k) : sP b k (i + 1) = sP b k i * 10 + sQ b k i * 10 / sS b k ∧ sQ b k (i + 1) = sQ b k i * 10 % sS b k := by
  have e : sR b k * 10 ^ (i + 1) = sQ b k i * 10 + sS b k * (sP b k i * 10) := by
    have := Nat.div_add_mod (sR b k * 10 ^ i) (sS b k)
    show _ = (sR b k * 10 ^ i % sS b k) * 10 + sS b k * ((sR b k * 10 ^ i / sS b k) * 10)
    rw [Nat.pow_succ, ← Nat.mul_assoc]
    generalize sR b k * 10 ^ i / sS b k = P at *
    generalize sR b k * 10 ^ i % sS b k = Q at *
    generalize sR b k * 10 ^ i = A at *
    rw [← this, ← Nat.mul_assoc]
    omega
  constructor
  · unfold sP at *
    rw [e, Nat.add_mul_div_left _ _ hS]
    omega
  · show sR b k * 10 ^ (i + 1) % sS b k = _
    rw [e, Nat.add_mul_mod_self_left]
/-- High, seen from the digits: the number with its margin reaches the next digits. -/
theorem sHi_iff (b : Nat) (k : Int) (i : Nat) : sHi b k i = true ↔ (sS b k * (sP b k i + 1) < (sR b k + sM b k) * 10 ^ i ∨ ((sR b k + sM b k) * 10 ^ i = sS b k * (sP b k i + 1) ∧ mgV b = true)) := by
  have := Nat.div_add_mod (sR b k * 10 ^ i) (sS b k)
  unfold sHi hiB
  rw [decide_eq_true_eq, Nat.add_mul, Nat.mul_add, Nat.mul_one]
  show (sS b k < sR b k * 10 ^ i % sS b k + _ ∨ sR b k * 10 ^ i % sS b k + _ = sS b k ∧ _) ↔ (sS b k * (sR b k * 10 ^ i / sS b k) + sS b k < _ ∨ _ = sS b k * (sR b k * 10 ^ i / sS b k) + sS b k ∧ _)
  generalize sS b k * (sR b k * 10 ^ i / sS b k) = SP at *
  generalize sR b k * 10 ^ i % sS b k = Q at *
  generalize sM b k * 10 ^ i = M at *
  generalize sR b k * 10 ^ i = A at *
  subst this
  constructor
  · rintro (h | ⟨h, e⟩)
    · left; omega
    · right; exact ⟨by omega, e⟩
  · rintro (h | ⟨h, e⟩)
    · left; omega
    · right; exact ⟨by omega, e⟩
/-- The last digit is no 9 that goes up; no digit is above 9. -/
theorem sDigit {b : Nat} {k : Int} {i : Nat} (hS : 0 < sS b k) (h : sQ b k i < sS b k) : sQ b k i * 10 / sS b k ≤ 9 := by
  have : sQ b k i * 10 / sS b k < 10 := (Nat.div_lt_iff_lt_mul hS).2 (by omega)
  omega
theorem no_nine {b : Nat} {k : Int} {i : Nat} (hS : 0 < sS b k) (h : sHi b k i = false) (h2 : sHi b k (i + 1) = true) : sP b k (i + 1) + 1 ≤ sP b k i * 10 + 9 := by
  refine Classical.byContradiction fun hc => ?_
  have hd := sDigit (b := b) (k := k) (i := i) hS (Nat.mod_lt _ hS)
  have hs := (sP_step b k i hS).1
  have e9 : sP b k (i + 1) + 1 = (sP b k i + 1) * 10 := by omega
  have h3 := (sHi_iff b k (i + 1)).1 h2
  rw [e9, Nat.pow_succ, ← Nat.mul_assoc, ← Nat.mul_assoc] at h3
  have : sHi b k i = true := (sHi_iff b k i).2 (by
    rcases h3 with h3 | ⟨h3, e⟩
    · left; omega
    · right; exact ⟨by omega, e⟩)
  rw [h] at this; cases this
/-- Where the digits begin: nothing is said yet. -/
theorem sht_start {b : Nat} {k : Int} (h : hiB (sR b k) (sS b k) (sM b k) (mgV b) = false) (hp : 0 < mgR b ∧ 0 < mgS b ∧ 0 < mgM b ∧ 0 < mgL b) :
    sR b k < sS b k ∧ sP b k 0 = 0 ∧ sQ b k 0 = sR b k ∧ sHi b k 0 = false ∧ 0 < sS b k ∧ 0 < sL b k := by
  have hM : 0 < sM b k := Nat.mul_pos hp.2.2.1 (Nat.pow_pos (by omega))
  have h1 := of_decide_eq_false h
  have hlt : sR b k < sS b k := by omega
  have e0 : sP b k 0 = 0 := by unfold sP; rw [Nat.pow_zero, Nat.mul_one]; exact Nat.div_eq_of_lt hlt
  have e1 : sQ b k 0 = sR b k := by unfold sQ; rw [Nat.pow_zero, Nat.mul_one]; exact Nat.mod_eq_of_lt hlt
  refine ⟨hlt, e0, e1, ?_, by omega, Nat.mul_pos hp.2.2.2 (Nat.pow_pos (by omega))⟩
  unfold sHi
  rw [e1, Nat.pow_zero, Nat.mul_one]
  exact h
/-- The first digit is no nought, unless it goes up at once. -/
theorem sht_first {b : Nat} {k : Int} (hl : hiB (sR b k * 10) (sS b k) (sM b k * 10) (mgV b) = true) (h0 : sP b k 1 = 0) : sHi b k 1 = true := by
  refine (sHi_iff b k 1).2 ?_
  have := of_decide_eq_true hl
  rw [h0, Nat.zero_add, Nat.mul_one, Nat.pow_one, Nat.add_mul]
  rcases this with h | ⟨h, e⟩
  · exact .inl h
  · exact .inr ⟨h, e⟩
theorem sR_gt_sL {b : Nat} {k : Int} (hF : fbF b ≠ 0) : sL b k < sR b k := by
  unfold sL sR
  refine Nat.mul_lt_mul_of_pos_right ?_ (Nat.pow_pos (by omega))
  unfold mgL mgR
  have h2 : 2 ≤ (if mgE b = true then 4 else 2) * fbF b := by
    have : 2 ≤ (if mgE b = true then 4 else 2) := by split <;> omega
    have := Nat.mul_le_mul this (Nat.pos_of_ne_zero hF)
    omega
  have h3 := Nat.two_pow_pos ((fbE b : Int) - 1074).toNat
  have h4 := Nat.mul_le_mul_right (2 ^ ((fbE b : Int) - 1074).toNat) h2
  omega
theorem sF_pos {b : Nat} {k : Int} {i : Nat} (hF : fbF b ≠ 0) (hl : hiB (sR b k * 10) (sS b k) (sM b k * 10) (mgV b) = true) (hs : 0 < sS b k) (h : i = 0 ∨ 1 ≤ sP b k i) : 1 ≤ sF b k (i + 1) := by
  rcases h with rfl | h
  · by_cases h0 : sP b k 1 = 0
    · have hh := sht_first hl h0
      have hlo : sLo b k 1 = false := by
        unfold sLo loB
        refine decide_eq_false ?_
        have e : sQ b k 1 = sR b k * 10 := by
          have := Nat.div_add_mod (sR b k * 10 ^ 1) (sS b k)
          show sR b k * 10 ^ 1 % sS b k = _
          have h0' : sR b k * 10 ^ 1 / sS b k = 0 := h0
          rw [h0', Nat.mul_zero, Nat.zero_add, Nat.pow_one] at this
          rw [Nat.pow_one]; exact this
        rw [e, Nat.pow_one]
        have := sR_gt_sL (b := b) (k := k) hF
        omega
      unfold sF sUp
      rw [hh, hlo]
      simp
    · show 1 ≤ sF b k 1
      unfold sF
      split <;> omega
  · have := (sP_step b k i hs).1
    generalize sQ b k i * 10 / sS b k = q at *
    unfold sF
    split <;> omega
/-- The last digit. -/
theorem sF_last {b : Nat} {k : Int} {i : Nat} (hs : 0 < sS b k) (hh : sHi b k i = false) : ∃ v, v ≤ 9 ∧ sF b k (i + 1) = sP b k i * 10 + v ∧ v = (if sUp b k (i + 1) = true then sQ b k i * 10 / sS b k + 1 else sQ b k i * 10 / sS b k) := by
  refine ⟨_, ?_, ?_, rfl⟩
  · have hd := sDigit (b := b) (k := k) (i := i) hs (Nat.mod_lt _ hs)
    split
    · rename_i hu
      have h2 : sHi b k (i + 1) = true := by
        unfold sUp at hu
        simp only [Bool.and_eq_true] at hu
        exact hu.1
      have h3 := no_nine hs hh h2
      have := (sP_step b k i hs).1
      omega
    · exact hd
  · have := (sP_step b k i hs).1
    unfold sF
    split <;> omega
end Go.Proofs.YtiadjcilfljdaaaGreatDoor
