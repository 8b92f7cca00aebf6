/- Layer 12: Exact, by the program and by the document; the law. -/
import Derived.Test.YtenoemjfoadgpaaDoorLitA
namespace Go.Proofs.YtenoemjfoadgpaaDoor
set_option linter.unusedVariables false
set_option linter.unusedSimpArgs false
open Go.RowKit Verge

theorem core_le (n : Nat) : core n ≤ n := by
  induction n using Nat.strongRecOn with
  | ind n ih =>
    by_cases h : 0 < n ∧ n % 10 = 0
    · rw [core_step h.1 h.2]
      exact Nat.le_trans (ih (n / 10) (by omega)) (by omega)
    · rw [core, dif_neg h]; exact Nat.le_refl _
theorem tz10_blen (n : Nat) : tz10 n ≤ blen n := by
  induction n using Nat.strongRecOn with
  | ind n ih =>
    by_cases h : 0 < n ∧ n % 10 = 0
    · rw [tz10_step h.1 h.2]
      have h1 := ih (n / 10) (by omega)
      have h2 := blen_pos (show n ≠ 0 by omega)
      have h3 : blen (n / 10) ≤ blen n - 1 := by
        rw [blen_lt]
        have h4 := (blen_lt n _).1 (Nat.le_refl _)
        have h5 : (2 : Nat) ^ blen n = 2 * 2 ^ (blen n - 1) := by rw [← Nat.pow_succ']; congr 1; omega
        omega
      omega
    · rw [tz10, dif_neg h]; exact Nat.zero_le _
theorem exT_len (b : Nat) : (exT b).length ≤ 20000 := by
  unfold exT
  by_cases h : fwrong b = true
  · rw [if_pos h]; simp
  · rw [if_neg h]
    by_cases h0 : fbF b = 0
    · rw [if_pos h0]; simp
    · rw [if_neg h0]
      obtain ⟨l1, _, l3, l4⟩ := exact_law h0 (rfl : _ = fbF b * 2 ^ ((fbE b : Int) - 1074).toNat * 5 ^ (-((fbE b : Int) - 1074)).toNat) (rfl : _ = (-((fbE b : Int) - 1074)).toNat)
      rw [← l3, ← l4]
      have hFl := fbF_blen b
      have hE : fbE b ≤ 2047 := by unfold fbE; omega
      have hK1 : (-((fbE b : Int) - 1074)).toNat ≤ 1074 := by omega
      have hX1 : ((fbE b : Int) - 1074).toNat ≤ 1000 := by omega
      generalize ((fbE b : Int) - 1074).toNat = x at *
      generalize (-((fbE b : Int) - 1074)).toNat = K at *
      generalize fbF b = F at *
      have hNb : blen (F * 2 ^ x) ≤ 53 + 1001 := by
        refine blen_mul_le hFl ?_
        rw [blen_of _ _ (Nat.le_refl _) (Nat.pow_lt_pow_right (by omega) (by omega))]; omega
      have h5b := five_blen K
      have hAb : blen (F * 2 ^ x * 5 ^ K) ≤ 9000 := by have := blen_mul_le hNb h5b; omega
      clear l3 l4
      generalize F * 2 ^ x * 5 ^ K = A at *
      have hc : (txt (core A)).length ≤ 9000 := by
        refine Nat.le_trans (txt_len _) ?_
        rw [blen_lt]
        have := (blen_lt A 9000).1 hAb
        exact Nat.lt_of_le_of_lt (core_le A) this
      have ht := tz10_blen A
      have hi := itoa_len (((txt (core A)).length : Int) - 1 + ((tz10 A : Int) - K)) (by omega) (by omega)
      unfold ftext
      generalize Lib.itoa _ = I at *
      generalize txt (core A) = D at *
      simp only [List.length_append, List.length_cons, List.length_take]
      split <;> split <;> simp <;> omega

/-- What both answer of an interval that was read. -/
def litT (lo hi : Nat) : List UInt8 :=
  if lo = 9218868437227405312 ∧ hi = 18442240474082181120 then [91, 101, 109, 112, 116, 121, 93]
  else if lo = 18442240474082181120 ∧ hi = 9218868437227405312 then [91, 101, 110, 116, 105, 114, 101, 93]
  else if lo = hi then [91] ++ exT lo ++ [93]
  else [91] ++ (if lo = 18442240474082181120 then [45, 105, 110, 102] else exT lo) ++ [44, 32] ++ (if hi = 9218868437227405312 then [105, 110, 102] else exT hi) ++ [93]

theorem ends_any (x y : Nat) (a b : List UInt8) (ha : a.length ≤ 20000) (hb : b.length ≤ 20000) (w : World) : Calls Tryd.prog 18 #[.agg #[.int .u64 (x : Int), .int .u64 (y : Int)], .string (bs a), .string (bs b)] w fun e w' => e = .returned (.string (bs ([91] ++ (if x = 18442240474082181120 then [45, 105, 110, 102] else a) ++ [44, 32] ++ (if y = 9218868437227405312 then [105, 110, 102] else b) ++ [93]))) ∧ Below w.heap.size w w' := by
  have HB := Lib.hid (fun o => bnew w o)
  have key : ∀ (c d : List UInt8), bs [91] ++ bs c ++ bs [44, 32] ++ bs d ++ bs [93] = bs ([91] ++ c ++ [44, 32] ++ d ++ [93]) := by
    intro c d; simp only [bs_append]
  rw [← key]
  have k0 : ((x : Int) == 18442240474082181120) = decide (x = 18442240474082181120) := by rw [Bool.eq_iff_iff]; simp; omega
  have k1 : ((y : Int) == 9218868437227405312) = decide (y = 9218868437227405312) := by rw [Bool.eq_iff_iff]; simp; omega
  have l0 : (bs [91]).size = 1 := rfl
  have l1 : (bs [44, 32]).size = 2 := rfl
  have l2 : (bs [93]).size = 1 := rfl
  have l3 : (bs [45, 105, 110, 102]).size = 4 := rfl
  have l4 : (bs [105, 110, 102]).size = 3 := rfl
  have e0 : ({ data := #[91] } : ByteArray) = bs [91] := rfl
  have e1 : ({ data := #[44, 32] } : ByteArray) = bs [44, 32] := rfl
  have e2 : ({ data := #[93] } : ByteArray) = bs [93] := rfl
  have e3 : ({ data := #[45, 105, 110, 102] } : ByteArray) = bs [45, 105, 110, 102] := rfl
  have e4 : ({ data := #[105, 110, 102] } : ByteArray) = bs [105, 110, 102] := rfl
  have ha2 : (bs a).size ≤ 20000 := by rw [bs_size]; exact ha
  have hb2 : (bs b).size ≤ 20000 := by rw [bs_size]; exact hb
  clear key ha hb
  by_cases hx : x = 18442240474082181120 <;> by_cases hy : y = 9218868437227405312
  all_goals
    first | rw [if_pos hx] | rw [if_neg hx]
    first | rw [if_pos hy] | rw [if_neg hy]
    first | rw [decide_eq_true hx] at k0 | rw [decide_eq_false hx] at k0
    first | rw [decide_eq_true hy] at k1 | rw [decide_eq_false hy] at k1
    clear hx hy
    go_enter Tryd.func18, Tryd.ntmps18
    go_wp2
    go_ret
    exact ⟨rfl, HB.out _⟩
end Go.Proofs.YtenoemjfoadgpaaDoor
