/- Layer 5, plain: Short's digits are the fewest that are read back. -/
import Derived.Test.YtcomkgmonhidhaaGreatDoorG40
section
namespace Go.Proofs.YtcomkgmonhidhaaGreatDoor
set_option linter.unusedVariables false
set_option linter.unusedSimpArgs false
open Go.RowKit Verge

theorem div_ratio {a b c d : Nat} (hb : 0 < b) (hd : 0 < d) (h : a * d = c * b) : a / b = c / d ∧ (a % b = 0 ↔ c % d = 0) := by
  have e : a / b = c / d := by
    have h1 : a * d / (b * d) = a / b := Nat.mul_div_mul_right a b hd
    have h2 : c * b / (d * b) = c / d := Nat.mul_div_mul_right c d hb
    rw [← h1, ← h2, h, Nat.mul_comm b d]
  refine ⟨e, ?_⟩
  have h1 := Nat.div_add_mod a b
  have h2 := Nat.div_add_mod c d
  rw [← e] at h2
  have key : a % b * d = c % d * b := by
    have e1 : a * d = b * (a / b) * d + a % b * d := by rw [← Nat.add_mul, h1]
    have e2 : c * b = d * (a / b) * b + c % d * b := by rw [← Nat.add_mul, h2]
    have e3 : b * (a / b) * d = d * (a / b) * b := by ac_rfl
    omega
  constructor
  · intro z
    rw [z, Nat.zero_mul] at key
    rcases Nat.mul_eq_zero.1 key.symm with q | q
    · exact q
    · omega
  · intro z
    rw [z, Nat.zero_mul] at key
    rcases Nat.mul_eq_zero.1 key with q | q
    · exact q
    · omega
theorem rngN_out {N D r : Nat} (hD : 0 < D) (hr : 0 < r) (h : rngN N D = r) : ((FV (r - 1) + FV r) * D < 2 * N ∨ ((FV (r - 1) + FV r) * D = 2 * N ∧ r % 2 = 0)) ∧ (2 * N < (FV r + FV (r + 1)) * D ∨ (2 * N = (FV r + FV (r + 1)) * D ∧ r % 2 = 0)) := by
  have h1 := fl_div_le N D hD
  have h2 := lt_fl_div N D hD
  have m1 := Nat.mul_lt_mul_of_pos_right (FV_lt (show r < r + 1 by omega)) hD
  have m2 := Nat.mul_lt_mul_of_pos_right (FV_lt (show r - 1 < r by omega)) hD
  unfold rngN at h
  obtain ⟨f, hf⟩ : ∃ f, fl (N / D) = f := ⟨_, rfl⟩
  rw [hf] at h1 h2 h
  by_cases c1 : 2 * N < (FV f + FV (f + 1)) * D
  · rw [if_pos c1] at h
    subst h
    rw [Nat.add_mul] at c1 ⊢
    rw [Nat.add_mul]
    exact ⟨.inl (by omega), .inl c1⟩
  · rw [if_neg c1] at h
    by_cases c2 : (FV f + FV (f + 1)) * D < 2 * N
    · rw [if_pos c2] at h
      subst h
      rw [Nat.add_sub_cancel] at *
      rw [Nat.add_mul] at c2 ⊢
      rw [Nat.add_mul]
      exact ⟨.inl c2, .inl (by omega)⟩
    · rw [if_neg c2] at h
      by_cases c3 : f % 2 = 0
      · rw [if_pos c3] at h
        subst h
        rw [Nat.add_mul] at c1 c2 ⊢
        rw [Nat.add_mul]
        exact ⟨.inl (by omega), .inr ⟨by omega, c3⟩⟩
      · rw [if_neg c3] at h
        subst h
        rw [Nat.add_sub_cancel] at *
        rw [Nat.add_mul] at c1 c2 ⊢
        rw [Nat.add_mul]
        exact ⟨.inr ⟨by omega, by omega⟩, .inl (by omega)⟩
/-- Short's scaled margins against Print's ratio. -/
theorem sP_qat {b : Nat} {N D : Nat} (hN : N = fbF b * 2 ^ ((fbE b : Int) - 1074).toNat) (hD : D = 2 ^ (-((fbE b : Int) - 1074)).toNat) (k : Int) (i : Nat) :
    sP b k i = qat N D (k - i) ∧ (sQ b k i = 0 ↔ N * 10 ^ (-(k - (i : Int))).toNat % (D * 10 ^ (k - (i : Int)).toNat) = 0) := by
  unfold sP sQ sR sS qat
  obtain ⟨c, hc⟩ : ∃ c, (if mgE b = true then 4 else 2) = c := ⟨_, rfl⟩
  have hc0 : 0 < c := by rw [← hc]; split <;> omega
  have hR : mgR b = c * N := by unfold mgR; rw [hc, hN, Nat.mul_assoc]
  have hS : mgS b = c * D := by unfold mgS; rw [hc, hD]
  have hD0 : 0 < D := by rw [hD]; exact Nat.two_pow_pos _
  rw [hR, hS]
  have hp : (10 : Nat) ^ (-k).toNat * 10 ^ i * 10 ^ (k - (i : Int)).toNat = 10 ^ (-(k - (i : Int))).toNat * 10 ^ k.toNat := by
    rw [← Nat.pow_add, ← Nat.pow_add, ← Nat.pow_add, show (-k).toNat + i + (k - (i : Int)).toNat = (-(k - (i : Int))).toNat + k.toNat by omega]
  refine div_ratio (Nat.mul_pos (Nat.mul_pos hc0 hD0) (Nat.pow_pos (by omega))) (Nat.mul_pos hD0 (Nat.pow_pos (by omega))) ?_
  clear hN hD hR hS hc
  generalize (10 : Nat) ^ (-k).toNat = t1 at *
  generalize (10 : Nat) ^ i = t2 at *
  generalize (10 : Nat) ^ (k - (i : Int)).toNat = t3 at *
  generalize (10 : Nat) ^ (-(k - (i : Int))).toNat = t4 at *
  generalize (10 : Nat) ^ k.toNat = t5 at *
  calc c * N * t1 * t2 * (D * t3) = c * N * D * (t1 * t2 * t3) := by ac_rfl
    _ = c * N * D * (t4 * t5) := by rw [hp]
    _ = _ := by ac_rfl
theorem prQ_dir {d : Int} (hd : d = 1 ∨ d = -1) (s : Bool) (N D : Nat) (K : Int) : prQ d s N D K = if N * 10 ^ (-K).toNat % (D * 10 ^ K.toNat) ≠ 0 ∧ decide (d = -1) = s then qat N D K + 1 else qat N D K := by
  unfold prQ upB
  rw [if_pos hd]
  generalize N * 10 ^ (-K).toNat % (D * 10 ^ K.toNat) = m
  by_cases h : m ≠ 0 ∧ decide (d = -1) = s
  · rw [if_pos h, if_pos (decide_eq_true ⟨by omega, h.2⟩)]
  · rw [if_neg h, if_neg (by rw [decide_eq_true_eq]; exact fun g => h ⟨by omega, g.2⟩)]
theorem mg_small (b : Nat) (hF : fbF b ≠ 0) : mgR b ≤ 18014398509481984 * mgL b ∧ mgL b ≤ mgM b ∧ mgR b = 2 * fbF b * mgM b := by
  have hlt := fbF_lt b
  unfold mgR mgL mgM
  generalize 2 ^ ((fbE b : Int) - 1074).toNat = x
  refine ⟨?_, ?_, ?_⟩
  · refine Nat.mul_le_mul_right x ?_
    by_cases h : mgE b = true
    · rw [if_pos h]
      have := (of_decide_eq_true h).1
      omega
    · rw [if_neg h]; omega
  · split <;> omega
  · split
    · rw [← Nat.mul_assoc]; congr 1; omega
    · rw [Nat.one_mul]
/-- How many digits stand there. -/
theorem sP_cnt {b : Nat} {k : Int} {i : Nat} (h : ShtOk b k i) (hF : fbF b ≠ 0) (h1 : 1 ≤ sP b k 1) (j : Nat) (hj : 1 ≤ j) : dcnt (sP b k j) = j := by
  obtain ⟨hp, _⟩ := mg_bounds b hF
  obtain ⟨s1, s2, s3, s4, s5, s6⟩ := sht_start h.top hp
  have hlt : sP b k j < 10 ^ j := by
    unfold sP
    rw [Nat.div_lt_iff_lt_mul s5, Nat.mul_comm]
    exact Nat.mul_lt_mul_of_pos_left s1 (Nat.pow_pos (by omega))
  have hge : 10 ^ (j - 1) ≤ sP b k j := by
    unfold sP at h1 ⊢
    rw [Nat.le_div_iff_mul_le s5] at h1 ⊢
    rw [Nat.one_mul, Nat.pow_one] at h1
    have := Nat.mul_le_mul_left (10 ^ (j - 1)) h1
    obtain ⟨m, rfl⟩ : ∃ m, j = m + 1 := ⟨j - 1, by omega⟩
    rw [Nat.add_sub_cancel] at this ⊢
    rw [Nat.pow_succ]
    refine Nat.le_trans this (Nat.le_of_eq ?_)
    ac_rfl
  have a := (dcnt_le (sP b k j) j).2 hlt
  have c : ¬ dcnt (sP b k j) ≤ j - 1 := fun hc => by have := (dcnt_le _ _).1 hc; omega
  omega
/-- Seventeen digits are enough. -/
theorem sht_17 {b : Nat} {k : Int} {i : Nat} (h : ShtOk b k i) (hF : fbF b ≠ 0) (h1 : 1 ≤ sP b k 1) : i ≤ 17 := by
  refine Classical.byContradiction fun hc => ?_
  obtain ⟨hp, _⟩ := mg_bounds b hF
  obtain ⟨s1, s2, s3, s4, s5, s6⟩ := sht_start h.top hp
  have hcnt := sP_cnt h hF h1 17 (by omega)
  obtain ⟨r1, r2⟩ := h.run 17 (by omega) (by omega)
  have hsp := (dcnt_spec (sP b k 17)).2
  rw [hcnt] at hsp
  have hpos : 0 < sP b k 17 := by
    rcases Nat.eq_zero_or_pos (sP b k 17) with e | e
    · rw [e, dcnt_zero] at hcnt; omega
    · exact e
  have hbig : 10000000000000000 ≤ sP b k 17 := (hsp hpos).2
  obtain ⟨m1, m2, _⟩ := mg_small b hF
  have n1 : sR b k * 10 ^ 17 ≤ 18014398509481984 * (sL b k * 10 ^ 17) := by
    unfold sR sL
    have := Nat.mul_le_mul_right ((10 : Nat) ^ (-k).toNat * 10 ^ 17) m1
    generalize (10 : Nat) ^ (-k).toNat = t at *
    generalize (10 : Nat) ^ 17 = u at *
    rw [Nat.mul_assoc, Nat.mul_assoc] at *
    exact this
  have n2 : sL b k * 10 ^ 17 ≤ sM b k * 10 ^ 17 := by
    unfold sL sM
    exact Nat.mul_le_mul_right _ (Nat.mul_le_mul_right _ m2)
  have hA := Nat.div_add_mod (sR b k * 10 ^ 17) (sS b k)
  have hq1 := of_decide_eq_false r1
  have hq2 := of_decide_eq_false r2
  have hb := Nat.mul_le_mul_left (sS b k) hbig
  unfold sP at hb
  unfold sQ at hq1 hq2
  have hR0 : 0 < sR b k * 10 ^ 17 := Nat.mul_pos (Nat.mul_pos hp.1 (Nat.pow_pos (by omega))) (Nat.pow_pos (by omega))
  obtain ⟨v, hv⟩ : ∃ v, (10 : Nat) ^ 17 = v := ⟨_, rfl⟩
  rw [hv] at *
  clear hv
  generalize sR b k * v = A at *
  generalize sL b k * v = L at *
  generalize sM b k * v = M at *
  generalize A % sS b k = Q at *
  generalize sS b k * (A / sS b k) = SP at *
  generalize sS b k = S at *
  omega
set_option maxRecDepth 20000 in
theorem odd_small : ∀ j, j < 402 → ∀ F, F < 5 → 0 < F → 2 * F * 10 ^ j < 2 ^ 1075 → 2 ^ 1075 ≤ 2 * F * 10 ^ j + 10 ^ j → 9 * 2 ^ 1075 < 10 * (2 * F * 10 ^ j) := by decide +kernel
/-- The odd case: a power of ten lies above the number, within its margin. -/
theorem sht_odd {b : Nat} {k : Int} {i : Nat} (h : ShtOk b k i) (hF : fbF b ≠ 0) (h0 : sP b k 1 = 0) : i = 1 ∧ sF b k i = 1 ∧ 9 * sS b k < sR b k * 100 ∧ sR b k * 10 < sS b k := by
  obtain ⟨hp, _⟩ := mg_bounds b hF
  obtain ⟨s1, s2, s3, s4, s5, s6⟩ := sht_start h.top hp
  have hh := sht_first h.low h0
  have hi : i = 1 := by
    refine Classical.byContradiction fun hc => ?_
    have := (h.run 1 (by omega) (by have := h.i1; omega)).1
    rw [hh] at this; cases this
  have hlt : sR b k * 10 < sS b k := by
    unfold sP at h0
    rw [Nat.pow_one] at h0
    rcases Nat.lt_or_ge (sR b k * 10) (sS b k) with g | g
    · exact g
    · have := Nat.div_pos g s5; omega
  refine ⟨hi, ?_, ?_, hlt⟩
  · subst hi
    have hlo : sLo b k 1 = false := by
      unfold sLo loB
      refine decide_eq_false ?_
      have e : sQ b k 1 = sR b k * 10 := by
        unfold sQ
        rw [Nat.pow_one]
        exact Nat.mod_eq_of_lt hlt
      rw [e, Nat.pow_one]
      have := sR_gt_sL (b := b) (k := k) hF
      omega
    unfold sF sUp
    rw [hh, hlo, h0]
    simp
  · have hl := of_decide_eq_true h.low
    have hle : sS b k ≤ sR b k * 10 + sM b k * 10 := by omega
    have hR0 : 0 < sR b k := Nat.mul_pos hp.1 (Nat.pow_pos (by omega))
    by_cases h5 : 5 ≤ fbF b
    · have e : sR b k = 2 * fbF b * sM b k := by
        unfold sR sM
        rw [(mg_small b hF).2.2, Nat.mul_assoc]
      have : 10 * sM b k ≤ sR b k := by
        rw [e]
        exact Nat.mul_le_mul_right _ (by omega)
      omega
    · have hE : fbE b = 0 := by
        unfold fbF at h5
        unfold fbE
        split at h5 <;> omega
      have hme : mgE b = false := by unfold mgE; exact decide_eq_false (by omega)
      have eR : mgR b = 2 * fbF b := by unfold mgR; rw [hme, hE]; simp
      have eM : mgM b = 1 := by unfold mgM; rw [hme, hE]; simp
      obtain ⟨m, hm⟩ : ∃ m, m = 1074 := ⟨_, rfl⟩
      obtain ⟨z, hz⟩ : ∃ z : Nat, (2 : Nat) ^ (m + 1) = z := ⟨_, rfl⟩
      have eS : mgS b = z := by
        unfold mgS; rw [hme, hE, ← hz, if_neg (by simp), show (-(((0 : Nat) : Int) - 1074)).toNat = m by omega, Nat.pow_succ, Nat.mul_comm]
      have hodd := odd_small
      rw [show (1075 : Nat) = m + 1 by omega, hz] at hodd
      have hz0 : 1000 < z := by
        rw [← hz]
        exact Nat.lt_of_lt_of_le (by decide : 1000 < 2 ^ 10) (Nat.pow_le_pow_right (by omega) (by omega))
      unfold sR sS at hlt
      unfold sR sS sM at hle
      unfold sR sS
      rw [eR, eS] at hlt hle
      rw [eR, eS]
      rw [eM] at hle
      clear hz eS
      have hk : k ≤ 0 := by
        refine Classical.byContradiction fun hc => ?_
        rw [show (-k).toNat = 0 by omega] at hle
        have : z * 1 ≤ z * 10 ^ k.toNat := Nat.mul_le_mul_left _ (Nat.pow_pos (by omega))
        omega
      have hk1 := h.k1
      rw [show k.toNat = 0 by omega, Nat.pow_zero, Nat.mul_one] at hle hlt
      rw [show k.toNat = 0 by omega, Nat.pow_zero, Nat.mul_one]
      have := hodd ((-k).toNat + 1) (by omega) (fbF b) (by omega) (by omega) (by rw [Nat.pow_succ, ← Nat.mul_assoc]; exact hlt) (by rw [Nat.pow_succ, ← Nat.mul_assoc]; omega)
      rw [Nat.pow_succ, ← Nat.mul_assoc (2 * fbF b)] at this
      omega
end Go.Proofs.YtcomkgmonhidhaaGreatDoor
end

section
namespace Go.Proofs.YtcomkgmonhidhaaGreatDoor
set_option linter.unusedVariables false
set_option linter.unusedSimpArgs false
open Go.RowKit Verge

theorem mg_cross {b r : Nat} (hb : b < 18446744073709551616) (hF : fbF b ≠ 0) (hr : b % 9223372036854775808 = r) {P Q T U q : Nat} (hPT : P * T = U * q * Q) (hT : 0 < T) (hQ : 0 < Q) :
    ∃ c, 0 < c ∧ 0 < mgS b * T ∧ 2 * (P * 2 ^ KU) * (mgS b * T) = c * (mgS b * U * q) ∧ (FV r + FV (r + 1)) * Q * (mgS b * T) = c * ((mgR b + mgM b) * T) ∧ (FV (r - 1) + FV r) * Q * (mgS b * T) + c * (mgL b * T) = c * (mgR b * T) := by
  obtain ⟨v1, v2, v3, v4, v5⟩ := mg_vals b hb hF _ hr
  obtain ⟨⟨p1, p2, p3, p4⟩, _⟩ := mg_bounds b hF
  have hW : 0 < 2 ^ KU := Nat.two_pow_pos _
  generalize mgR b = R at *
  generalize mgS b = S at *
  generalize mgM b = M at *
  generalize mgL b = L at *
  generalize 2 ^ KU = W at *
  refine ⟨2 * W * Q, Nat.mul_pos (Nat.mul_pos (by omega) hW) hQ, Nat.mul_pos p2 hT, ?_, ?_, ?_⟩
  · calc 2 * (P * W) * (S * T) = 2 * W * S * (P * T) := by ac_rfl
      _ = 2 * W * S * (U * q * Q) := by rw [hPT]
      _ = 2 * W * Q * (S * U * q) := by ac_rfl
  · calc (FV r + FV (r + 1)) * Q * (S * T) = (FV r * S + FV (r + 1) * S) * (Q * T) := by rw [← Nat.add_mul]; ac_rfl
      _ = (2 * ((R + M) * W)) * (Q * T) := by rw [show FV r * S + FV (r + 1) * S = 2 * ((R + M) * W) by rw [Nat.add_mul R M W]; omega]
      _ = 2 * W * Q * ((R + M) * T) := by ac_rfl
  · calc (FV (r - 1) + FV r) * Q * (S * T) + 2 * W * Q * (L * T) = (FV (r - 1) * S + FV r * S) * (Q * T) + 2 * W * Q * (L * T) := by rw [← Nat.add_mul]; congr 1; ac_rfl
      _ = (FV (r - 1) * S + FV r * S) * (Q * T) + (2 * (L * W)) * (Q * T) := by congr 1; ac_rfl
      _ = (FV (r - 1) * S + FV r * S + 2 * (L * W)) * (Q * T) := (Nat.add_mul _ _ _).symm
      _ = (2 * (R * W)) * (Q * T) := by rw [show FV (r - 1) * S + FV r * S + 2 * (L * W) = 2 * (R * W) by omega]
      _ = 2 * W * Q * (R * T) := by ac_rfl
/-- What is read as the number lies within its margins. -/
theorem mg_out {b r : Nat} (hb : b < 18446744073709551616) (hF : fbF b ≠ 0) (hr : b % 9223372036854775808 = r) {P Q T U q : Nat} (hPT : P * T = U * q * Q) (hT : 0 < T) (hQ : 0 < Q) (h : rngN (P * 2 ^ KU) Q = r) :
    (mgS b * U * q < (mgR b + mgM b) * T ∨ (mgS b * U * q = (mgR b + mgM b) * T ∧ mgV b = true)) ∧ (mgR b * T < mgS b * U * q + mgL b * T ∨ (mgR b * T = mgS b * U * q + mgL b * T ∧ mgV b = true)) := by
  obtain ⟨c, c0, st, eX, eY, eZ⟩ := mg_cross hb hF hr hPT hT hQ
  obtain ⟨_, _, _, v4, v5⟩ := mg_vals b hb hF _ hr
  obtain ⟨o1, o2⟩ := rngN_out hQ v5 h
  generalize mgS b * U * q = G at *
  generalize (mgR b + mgM b) * T = B at *
  generalize mgR b * T = A at *
  generalize mgL b * T = L at *
  generalize mgS b * T = ST at *
  constructor
  · rcases o2 with g | ⟨g, g'⟩
    · left
      have := Nat.mul_lt_mul_of_pos_right g st
      rw [eX, eY] at this
      exact Nat.lt_of_mul_lt_mul_left this
    · right
      refine ⟨Nat.eq_of_mul_eq_mul_left c0 ?_, v4.2 g'⟩
      rw [← eX, ← eY, g]
  · rcases o1 with g | ⟨g, g'⟩
    · left
      have := Nat.mul_lt_mul_of_pos_right g st
      rw [eX] at this
      refine Nat.lt_of_mul_lt_mul_left (a := c) ?_
      rw [Nat.mul_add]
      omega
    · right
      refine ⟨Nat.eq_of_mul_eq_mul_left c0 ?_, v4.2 g'⟩
      rw [Nat.mul_add, ← eZ, g, eX]
theorem min_is {x r : Nat} (h : min x 9218868437227405312 = r) (hr : r ≤ 9218868437227405311) : x = r := by omega
theorem fpat_eq {b m : Nat} {s : Bool} (hb : b < 18446744073709551616) (hs : decide (9223372036854775808 ≤ b) = s) (h0 : 0 < b % 9223372036854775808) (hm : m ≤ 9218868437227405312) (h : fpat s m = b) : m = b % 9223372036854775808 := by
  unfold fpat at h
  by_cases hc : m = 0
  · rw [if_pos hc] at h; omega
  · rw [if_neg hc] at h
    cases s
    · have := of_decide_eq_false hs
      simp at h
      omega
    · have := of_decide_eq_true hs
      simp at h
      omega
/-- With fewer digits than Short's, Down and Up, the number is not read back. -/
theorem few_read {b : Nat} {k : Int} {i : Nat} (h : ShtOk b k i) (hb : b < 18446744073709551616) (hw : fwrong b = false) (hF : fbF b ≠ 0) (hP1 : 1 ≤ sP b k 1) {s : Bool} (hs : decide (9223372036854775808 ≤ b) = s) {N D : Nat} (hN : N = fbF b * 2 ^ ((fbE b : Int) - 1074).toNat) (hD : D = 2 ^ (-((fbE b : Int) - 1074)).toNat) {j : Nat} (j1 : 1 ≤ j) (ji : j < i) {K : Int} (k1 : -1600 ≤ K) (k2 : K ≤ 1000) (hK : dcnt (qat N D K) = j) (d : Int) : ∃ p, readS 0 (prT d s N D K j) = (p, 0, 0) ∧ p ≠ b := by
  have hD0 : 0 < D := by rw [hD]; exact Nat.two_pow_pos _
  have hq := sP_qat hN hD k j
  have hcnt := sP_cnt h hF hP1 j j1
  obtain rfl : K = k - j := qat_one hD0 j1 hK (by rw [← hq.1]; exact hcnt)
  obtain ⟨P, Q, e, hQ, hPQ⟩ := prT_scn (d := d) (s := s) hK j1 (by have := h.i2; omega) k1 k2
  have hread : readS 0 (prT d s N D (k - j) j) = (fpat s (rng 0 s (P * 2 ^ (0 : Int).toNat * 2 ^ KU) (Q * 2 ^ (-(0 : Int)).toNat)), 0, 0) := by unfold readS; rw [e]
  refine ⟨_, hread, fun hc => ?_⟩
  have hr0 := (mg_vals b hb hF _ rfl).2.2.2.2
  have hx := fpat_eq hb hs hr0 (rng_top _ _ _ _) hc
  rw [show ((0 : Int).toNat) = 0 from rfl, show ((-(0 : Int)).toNat) = 0 from rfl, Nat.pow_zero, Nat.mul_one, Nat.mul_one, rng_near] at hx
  have hfin := fin_r hw
  have hx2 : rngN (P * 2 ^ KU) Q = b % 9223372036854775808 := min_is hx hfin
  clear hx hc
  have hT : 0 < 10 ^ (-k).toNat * 10 ^ j := Nat.mul_pos (Nat.pow_pos (by omega)) (Nat.pow_pos (by omega))
  have hPT : P * (10 ^ (-k).toNat * 10 ^ j) = 10 ^ k.toNat * prQ d s N D (k - j) * Q := by
    have hpw : (10 : Nat) ^ (-k).toNat * 10 ^ j * 10 ^ (k - (j : Int)).toNat = 10 ^ (-(k - (j : Int))).toNat * 10 ^ k.toNat := by
      rw [← Nat.pow_add, ← Nat.pow_add, ← Nat.pow_add, show (-k).toNat + j + (k - (j : Int)).toNat = (-(k - (j : Int))).toNat + k.toNat by omega]
    have hu : 0 < 10 ^ (k - (j : Int)).toNat := Nat.pow_pos (by omega)
    refine Nat.eq_of_mul_eq_mul_right hu ?_
    clear hx2 hread e hK hq
    generalize prQ d s N D (k - j) = q at *
    generalize (10 : Nat) ^ (-k).toNat * 10 ^ j = T at *
    generalize (10 : Nat) ^ (k - (j : Int)).toNat = u at *
    generalize (10 : Nat) ^ (-(k - (j : Int))).toNat = t at *
    generalize (10 : Nat) ^ k.toNat = U at *
    calc P * T * u = P * (T * u) := Nat.mul_assoc _ _ _
      _ = P * t * U := by rw [hpw, Nat.mul_assoc]
      _ = q * u * Q * U := by rw [hPQ]
      _ = _ := by ac_rfl
  obtain ⟨o1, o2⟩ := mg_out hb hF rfl hPT hT hQ hx2
  clear hx2 hread e
  obtain ⟨r1, r2⟩ := h.run j j1 ji
  have hq2 := prQ_two d s N D (k - j)
  rw [← hq.1] at hq2
  have g1 := of_decide_eq_false r1
  have g2 := of_decide_eq_false r2
  have hA := Nat.div_add_mod (sR b k * 10 ^ j) (sS b k)
  have hmod : sQ b k j < sS b k := by
    obtain ⟨hp, _⟩ := mg_bounds b hF
    exact Nat.mod_lt _ (sht_start h.top hp).2.2.2.2.1
  have a1 : (mgR b + mgM b) * (10 ^ (-k).toNat * 10 ^ j) = sR b k * 10 ^ j + sM b k * 10 ^ j := by
    unfold sR sM; rw [Nat.add_mul, Nat.mul_assoc, Nat.mul_assoc]
  have a2 : mgR b * (10 ^ (-k).toNat * 10 ^ j) = sR b k * 10 ^ j := by unfold sR; rw [Nat.mul_assoc]
  have a3 : mgL b * (10 ^ (-k).toNat * 10 ^ j) = sL b k * 10 ^ j := by unfold sL; rw [Nat.mul_assoc]
  have a4 : mgS b * 10 ^ k.toNat = sS b k := rfl
  rw [a1, a4] at o1
  rw [a2, a3, a4] at o2
  have hP : sR b k * 10 ^ j / sS b k = sP b k j := rfl
  have hQQ : sR b k * 10 ^ j % sS b k = sQ b k j := rfl
  rw [hP, hQQ] at hA
  generalize prQ d s N D (k - j) = q at *
  generalize sM b k * 10 ^ j = M at *
  generalize sL b k * 10 ^ j = L at *
  generalize sR b k * 10 ^ j = A at *
  generalize sQ b k j = Qj at *
  generalize sP b k j = Pj at *
  generalize sS b k = S at *
  rcases hq2 with rfl | rfl
  · refine g2 ?_
    rcases o2 with g | ⟨g, g'⟩
    · left; omega
    · right; exact ⟨by omega, g'⟩
  · refine g1 ?_
    rw [Nat.mul_add, Nat.mul_one] at o1
    rcases o1 with g | ⟨g, g'⟩
    · left; omega
    · right; exact ⟨by omega, g'⟩
theorem prT_eq {d : Int} {s : Bool} {N D : Nat} {K : Int} {n q : Nat} (hq : prQ d s N D K = q) (hl : (txt q).length = n) : prT d s N D K n = ftext s (txt q) K := by
  unfold prT
  rw [hq, hl, if_neg (by omega), List.take_of_length_le (by omega)]
theorem prT_odd {d : Int} {s : Bool} {N D : Nat} {K : Int} (hq : prQ d s N D K = 10) : prT d s N D K 1 = ftext s (txt 1) (K + 1) := by
  unfold prT
  have h10 : txt 10 = [49, 48] := by decide +kernel
  have h1 : txt 1 = [49] := by decide +kernel
  rw [hq, h10, h1]
  rfl
/-- Short's text is the one that Print writes Down, or the one that it writes Up. -/
theorem few_text {b : Nat} {k : Int} {i : Nat} (h : ShtOk b k i) (hb : b < 18446744073709551616) (hw : fwrong b = false) (hF : fbF b ≠ 0) {s : Bool} {N D : Nat} (hN : N = fbF b * 2 ^ ((fbE b : Int) - 1074).toNat) (hD : D = 2 ^ (-((fbE b : Int) - 1074)).toNat) :
    1 ≤ (txt (sF b k i)).length ∧ (txt (sF b k i)).length ≤ 17 ∧
    (∀ K, dcnt (qat N D K) = (txt (sF b k i)).length → ftext s (txt (sF b k i)) (k - i) = prT (-1) s N D K (txt (sF b k i)).length ∨ ftext s (txt (sF b k i)) (k - i) = prT 1 s N D K (txt (sF b k i)).length) ∧
    ((txt (sF b k i)).length = 1 ∨ ((txt (sF b k i)).length = i ∧ 1 ≤ sP b k 1)) := by
  have hD0 : 0 < D := by rw [hD]; exact Nat.two_pow_pos _
  obtain ⟨hp, _⟩ := mg_bounds b hF
  obtain ⟨s1, s2, s3, s4, s5, s6⟩ := sht_start h.top hp
  have hi1 := h.i1
  rcases Nat.eq_zero_or_pos (sP b k 1) with h0 | h1
  · obtain ⟨rfl, hf, o1, o2⟩ := sht_odd h hF h0
    have h1 : txt 1 = [49] := by decide +kernel
    have hq := sP_qat hN hD k 2
    have hq9 : sP b k 2 = 9 := by
      unfold sP
      rw [show (10 : Nat) ^ 2 = 100 from rfl]
      refine Nat.div_eq_of_lt_le ?_ ?_ <;> omega
    have hqn : sQ b k 2 ≠ 0 := by
      intro e
      have hd : sS b k * sP b k 2 + sQ b k 2 = sR b k * 10 ^ 2 := Nat.div_add_mod (sR b k * 10 ^ 2) (sS b k)
      rw [e, hq9, show (10 : Nat) ^ 2 = 100 from rfl] at hd
      omega
    have hlen : (txt (sF b k 1)).length = 1 := by rw [hf, h1]; rfl
    rw [hlen]
    refine ⟨by omega, by omega, ?_, .inl rfl⟩
    intro K hK
    have hd9 : dcnt 9 = 1 := by decide +kernel
    obtain rfl : K = k - (2 : Nat) := qat_one hD0 (by omega) hK (by rw [← hq.1, hq9]; exact hd9)
    have e10 : ∀ d, (d = 1 ∨ d = -1) → decide (d = -1) = s → prQ d s N D (k - (2 : Nat)) = 10 := by
      intro d hd hds
      rw [prQ_dir hd, if_pos ⟨fun hz => hqn (hq.2.2 hz), hds⟩, ← hq.1, hq9]
    rw [hf]
    have ek : k - ((2 : Nat) : Int) + 1 = k - ((1 : Nat) : Int) := by omega
    cases s
    · right; rw [prT_odd (e10 1 (.inl rfl) (by decide)), ek]
    · left; rw [prT_odd (e10 (-1) (.inr rfl) (by decide)), ek]
  · have hcnt := sP_cnt h hF h1 i hi1
    have hq := sP_qat hN hD k i
    have hlt : sP b k i < 10 ^ i := (dcnt_le _ _).1 (by omega)
    have hmod : sQ b k i < sS b k := Nat.mod_lt _ s5
    have hup : sUp b k i = true → sHi b k i = true ∧ sQ b k i ≠ 0 := by
      intro hu
      unfold sUp at hu
      simp only [Bool.and_eq_true, Bool.or_eq_true, Bool.not_eq_true', decide_eq_true_eq] at hu
      refine ⟨hu.1, fun e => ?_⟩
      rcases hu.2 with g | g
      · have := of_decide_eq_false g
        have h10 : 0 < sL b k * 10 ^ i := Nat.mul_pos s6 (Nat.pow_pos (by omega))
        omega
      · omega
    have hlen : (txt (sF b k i)).length = i := by
      have e : ∀ q, sP b k i ≤ q → q < 10 ^ i → (txt q).length = i := by
        intro q a1 a2
        have b1 : dcnt q ≤ i := (dcnt_le _ _).2 a2
        have b2 : ¬ dcnt q ≤ i - 1 := by
          rw [dcnt_le]
          have : ¬ dcnt (sP b k i) ≤ i - 1 := by omega
          rw [dcnt_le] at this
          omega
        show dcnt q = i
        omega
      refine e _ (by unfold sF; split <;> omega) ?_
      unfold sF
      split
      · rename_i hu
        have hh := (sHi_iff b k i).1 (hup hu).1
        rcases Nat.lt_or_ge (sP b k i + 1) (10 ^ i) with g | g
        · exact g
        · exfalso
          have e1 : sP b k i + 1 = 10 ^ i := by omega
          rw [e1] at hh
          have ht := of_decide_eq_false h.top
          refine ht ?_
          have h10 : 0 < 10 ^ i := Nat.pow_pos (by omega)
          rcases hh with g | ⟨g, g'⟩
          · exact .inl (Nat.lt_of_mul_lt_mul_right g)
          · exact .inr ⟨Nat.eq_of_mul_eq_mul_right h10 g, g'⟩
      · exact hlt
    rw [hlen]
    refine ⟨hi1, sht_17 h hF h1, ?_, .inr ⟨rfl, h1⟩⟩
    intro K hK
    obtain rfl : K = k - i := qat_one hD0 hi1 hK (by rw [← hq.1]; exact hcnt)
    have key : ∀ d, (d = 1 ∨ d = -1) → (decide (d = -1) = s ↔ sUp b k i = true) → prQ d s N D (k - i) = sF b k i := by
      intro d hd hds
      rw [prQ_dir hd, ← hq.1]
      unfold sF
      by_cases hu : sUp b k i = true
      · rw [if_pos hu, if_pos ⟨fun hz => (hup hu).2 (hq.2.2 hz), hds.2 hu⟩]
      · rw [if_neg hu, if_neg (fun g => hu (hds.1 g.2))]
    cases hu : sUp b k i <;> rw [hu] at key
    · cases s
      · left; rw [prT_eq (key (-1) (.inr rfl) (by decide)) hlen]
      · right; rw [prT_eq (key 1 (.inl rfl) (by decide)) hlen]
    · cases s
      · right; rw [prT_eq (key 1 (.inl rfl) (by decide)) hlen]
      · left; rw [prT_eq (key (-1) (.inr rfl) (by decide)) hlen]
end Go.Proofs.YtcomkgmonhidhaaGreatDoor
end

section
namespace Go.Proofs.YtcomkgmonhidhaaGreatDoor
set_option linter.unusedVariables false
set_option linter.unusedSimpArgs false
open Go.RowKit Verge

theorem div_rest {a b c d : Nat} (hb : 0 < b) (hd : 0 < d) (h : a * d = c * b) : a / b = c / d ∧ a % b * d = c % d * b := by
  obtain ⟨e, _⟩ := div_ratio hb hd h
  refine ⟨e, ?_⟩
  have h1 := Nat.div_add_mod a b
  have h2 := Nat.div_add_mod c d
  rw [← e] at h2
  have e1 : a * d = b * (a / b) * d + a % b * d := by rw [← Nat.add_mul, h1]
  have e2 : c * b = d * (a / b) * b + c % d * b := by rw [← Nat.add_mul, h2]
  have e3 : b * (a / b) * d = d * (a / b) * b := by ac_rfl
  omega
/-- Rounded to the number just if within its margins. -/
theorem mg_iff {b r : Nat} (hb : b < 18446744073709551616) (hF : fbF b ≠ 0) (hr : b % 9223372036854775808 = r) {P Q T U q : Nat} (hPT : P * T = U * q * Q) (hT : 0 < T) (hQ : 0 < Q) :
    rngN (P * 2 ^ KU) Q = r ↔ (mgS b * U * q < (mgR b + mgM b) * T ∨ (mgS b * U * q = (mgR b + mgM b) * T ∧ mgV b = true)) ∧ (mgR b * T < mgS b * U * q + mgL b * T ∨ (mgR b * T = mgS b * U * q + mgL b * T ∧ mgV b = true)) := by
  refine ⟨fun h => mg_out hb hF hr hPT hT hQ h, ?_⟩
  rintro ⟨o1, o2⟩
  obtain ⟨c, c0, st, eX, eY, eZ⟩ := mg_cross hb hF hr hPT hT hQ
  obtain ⟨_, _, _, v4, v5⟩ := mg_vals b hb hF _ hr
  generalize mgS b * U * q = G at *
  generalize (mgR b + mgM b) * T = B at *
  generalize mgR b * T = A at *
  generalize mgL b * T = L at *
  generalize mgS b * T = ST at *
  generalize P * 2 ^ KU = X at *
  refine rngN_in hQ (.inr ?_) ?_
  · rcases o2 with g | ⟨g, g'⟩
    · left
      refine Nat.lt_of_mul_lt_mul_right (a := ST) ?_
      rw [eX]
      have := Nat.mul_lt_mul_of_pos_left g c0
      rw [Nat.mul_add] at this
      omega
    · right
      refine ⟨Nat.eq_of_mul_eq_mul_right st ?_, v4.1 g'⟩
      rw [eX]
      have := congrArg (c * ·) g
      simp only [Nat.mul_add] at this
      omega
  · rcases o1 with g | ⟨g, g'⟩
    · left
      refine Nat.lt_of_mul_lt_mul_right (a := ST) ?_
      rw [eX, eY]
      exact Nat.mul_lt_mul_of_pos_left g c0
    · right
      refine ⟨Nat.eq_of_mul_eq_mul_right st ?_, v4.1 g'⟩
      rw [eX, eY, g]
/-- A number of digits at a power of ten, as a ratio. -/
def TenIs (P Q q : Nat) (K : Int) : Prop := 0 < Q ∧ P * 10 ^ (-K).toNat = q * 10 ^ K.toNat * Q
theorem TenIs.cross {P Q q : Nat} {k : Int} {j : Nat} (h : TenIs P Q q (k - j)) : P * (10 ^ (-k).toNat * 10 ^ j) = 10 ^ k.toNat * q * Q := by
  obtain ⟨hQ, hPQ⟩ := h
  have hpw : (10 : Nat) ^ (-k).toNat * 10 ^ j * 10 ^ (k - (j : Int)).toNat = 10 ^ (-(k - (j : Int))).toNat * 10 ^ k.toNat := by
    rw [← Nat.pow_add, ← Nat.pow_add, ← Nat.pow_add, show (-k).toNat + j + (k - (j : Int)).toNat = (-(k - (j : Int))).toNat + k.toNat by omega]
  have hu : 0 < 10 ^ (k - (j : Int)).toNat := Nat.pow_pos (by omega)
  refine Nat.eq_of_mul_eq_mul_right hu ?_
  generalize (10 : Nat) ^ (-k).toNat * 10 ^ j = T at *
  generalize (10 : Nat) ^ (k - (j : Int)).toNat = u at *
  generalize (10 : Nat) ^ (-(k - (j : Int))).toNat = t at *
  generalize (10 : Nat) ^ k.toNat = U at *
  calc P * T * u = P * (T * u) := Nat.mul_assoc _ _ _
    _ = P * t * U := by rw [hpw, Nat.mul_assoc]
    _ = q * u * Q * U := by rw [hPQ]
    _ = _ := by ac_rfl
section
variable {b : Nat} {k : Int} {j : Nat} (hb : b < 18446744073709551616) (hF : fbF b ≠ 0)
include hb hF
/-- The digits below are read back just if the program says so; likewise those above. -/
theorem read_lo {P Q : Nat} (h : TenIs P Q (sP b k j) (k - j)) : rngN (P * 2 ^ KU) Q = b % 9223372036854775808 ↔ sLo b k j = true := by
  obtain ⟨⟨p1, p2, p3, p4⟩, _⟩ := mg_bounds b hF
  have hT : 0 < 10 ^ (-k).toNat * 10 ^ j := Nat.mul_pos (Nat.pow_pos (by omega)) (Nat.pow_pos (by omega))
  rw [mg_iff hb hF rfl h.cross hT h.1]
  have hM : 0 < mgM b * (10 ^ (-k).toNat * 10 ^ j) := Nat.mul_pos p3 hT
  unfold sLo sQ sP loB sL sR sS
  rw [decide_eq_true_eq, Nat.add_mul, ← Nat.mul_assoc (mgR b), ← Nat.mul_assoc (mgL b)]
  have hd := Nat.div_add_mod (mgR b * 10 ^ (-k).toNat * 10 ^ j) (mgS b * 10 ^ k.toNat)
  generalize mgR b * 10 ^ (-k).toNat * 10 ^ j = A at *
  generalize mgM b * (10 ^ (-k).toNat * 10 ^ j) = M at *
  generalize mgL b * 10 ^ (-k).toNat * 10 ^ j = L at *
  generalize mgS b * 10 ^ k.toNat = S at *
  generalize A % S = Qq at *
  generalize S * (A / S) = G at *
  constructor
  · rintro ⟨_, g | ⟨g, g'⟩⟩
    · left; omega
    · right; exact ⟨by omega, g'⟩
  · rintro (g | ⟨g, g'⟩)
    · exact ⟨.inl (by omega), .inl (by omega)⟩
    · exact ⟨.inl (by omega), .inr ⟨by omega, g'⟩⟩
theorem read_hi {P Q : Nat} (hs : 0 < sS b k) (h : TenIs P Q (sP b k j + 1) (k - j)) : rngN (P * 2 ^ KU) Q = b % 9223372036854775808 ↔ sHi b k j = true := by
  obtain ⟨⟨p1, p2, p3, p4⟩, _⟩ := mg_bounds b hF
  have hT : 0 < 10 ^ (-k).toNat * 10 ^ j := Nat.mul_pos (Nat.pow_pos (by omega)) (Nat.pow_pos (by omega))
  rw [mg_iff hb hF rfl h.cross hT h.1]
  have hL : 0 < mgL b * (10 ^ (-k).toNat * 10 ^ j) := Nat.mul_pos p4 hT
  have hlt : sR b k * 10 ^ j % sS b k < sS b k := Nat.mod_lt _ hs
  unfold sHi sQ sP hiB sM
  unfold sR sS at *
  rw [decide_eq_true_eq, Nat.add_mul, ← Nat.mul_assoc (mgR b), ← Nat.mul_assoc (mgM b), Nat.mul_add, Nat.mul_one]
  have hd := Nat.div_add_mod (mgR b * 10 ^ (-k).toNat * 10 ^ j) (mgS b * 10 ^ k.toNat)
  generalize mgR b * 10 ^ (-k).toNat * 10 ^ j = A at *
  generalize mgM b * 10 ^ (-k).toNat * 10 ^ j = M at *
  generalize mgL b * (10 ^ (-k).toNat * 10 ^ j) = L at *
  generalize mgS b * 10 ^ k.toNat = S at *
  generalize A % S = Qq at *
  generalize S * (A / S) = G at *
  constructor
  · rintro ⟨g | ⟨g, g'⟩, _⟩
    · left; omega
    · right; exact ⟨by omega, g'⟩
  · rintro (g | ⟨g, g'⟩)
    · exact ⟨.inl (by omega), .inl (by omega)⟩
    · exact ⟨.inr ⟨by omega, g'⟩, .inl (by omega)⟩
end
end Go.Proofs.YtcomkgmonhidhaaGreatDoor
end
