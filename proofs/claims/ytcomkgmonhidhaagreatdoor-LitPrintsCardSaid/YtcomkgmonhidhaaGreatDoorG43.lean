/- Layer 5, plain: the document's tries, one number of digits behind the other. -/
import Derived.Test.YtcomkgmonhidhaaGreatDoorG41
import Derived.Test.YtcomkgmonhidhaaGreatDoorG42
import Derived.Test.YtcomkgmonhidhaaGreatDoorG35
section
namespace Go.Proofs.YtcomkgmonhidhaaGreatDoor
set_option linter.unusedVariables false
set_option linter.unusedSimpArgs false
open Go.RowKit Verge

set_option maxRecDepth 20000 in
theorem odd_small2 : ∀ j, j < 402 → ∀ F, F < 11 → 0 < F → 2 * F * 10 ^ j < 2 ^ 1075 → 2 ^ 1075 ≤ 2 * F * 10 ^ j + 10 ^ j → 19 * 2 ^ 1075 < 20 * (2 * F * 10 ^ j) := by decide +kernel
theorem sht_odd2 {b : Nat} {k : Int} {i : Nat} (h : ShtOk b k i) (hF : fbF b ≠ 0) (h0 : sP b k 1 = 0) : 19 * sS b k < sR b k * 200 := by
  obtain ⟨hp, _⟩ := mg_bounds b hF
  obtain ⟨_, _, _, hlt⟩ := sht_odd h hF h0
  have hl := of_decide_eq_true h.low
  have hle : sS b k ≤ sR b k * 10 + sM b k * 10 := by omega
  have hR0 : 0 < sR b k := Nat.mul_pos hp.1 (Nat.pow_pos (by omega))
  by_cases h5 : 11 ≤ fbF b
  · have e : sR b k = 2 * fbF b * sM b k := by
      unfold sR sM
      rw [(mg_small b hF).2.2, Nat.mul_assoc]
    have : 22 * sM b k ≤ sR b k := by
      rw [e]
      exact Nat.mul_le_mul_right _ (by omega)
    omega
  · have hE : fbE b = 0 := by
      unfold fbF at h5
      unfold fbE
      split at h5 <;> omega
    have hme : mgE b = false := by unfold mgE; exact decide_eq_false (by omega)
    have eR : mgR b = 2 * fbF b := by unfold mgR; rw [hme, hE]; simp
    have eM : mgM b = 1 := by unfold mgM; rw [hme, hE]; simp
    obtain ⟨m, hm⟩ : ∃ m, m = 1074 := ⟨_, rfl⟩
    obtain ⟨z, hz⟩ : ∃ z : Nat, (2 : Nat) ^ (m + 1) = z := ⟨_, rfl⟩
    have eS : mgS b = z := by
      unfold mgS; rw [hme, hE, ← hz, if_neg (by simp), show (-(((0 : Nat) : Int) - 1074)).toNat = m by omega, Nat.pow_succ, Nat.mul_comm]
    have hodd := odd_small2
    rw [show (1075 : Nat) = m + 1 by omega, hz] at hodd
    have hz0 : 1000 < z := by
      rw [← hz]
      exact Nat.lt_of_lt_of_le (by decide : 1000 < 2 ^ 10) (Nat.pow_le_pow_right (by omega) (by omega))
    unfold sR sS at hlt
    unfold sR sS sM at hle
    unfold sR sS
    rw [eR, eS] at hlt hle
    rw [eR, eS]
    rw [eM] at hle
    clear hz eS
    have hk : k ≤ 0 := by
      refine Classical.byContradiction fun hc => ?_
      rw [show (-k).toNat = 0 by omega] at hle
      have : z * 1 ≤ z * 10 ^ k.toNat := Nat.mul_le_mul_left _ (Nat.pow_pos (by omega))
      omega
    have hk1 := h.k1
    rw [show k.toNat = 0 by omega, Nat.pow_zero, Nat.mul_one] at hle hlt
    rw [show k.toNat = 0 by omega, Nat.pow_zero, Nat.mul_one]
    have := hodd ((-k).toNat + 1) (by omega) (fbF b) (by omega) (by omega) (by rw [Nat.pow_succ, ← Nat.mul_assoc]; exact hlt) (by rw [Nat.pow_succ, ← Nat.mul_assoc]; omega)
    rw [Nat.pow_succ, ← Nat.mul_assoc (2 * fbF b)] at this
    omega
/-- Digits cut to n, and the power of ten behind them. -/
theorem ten_cut {d : Int} {s : Bool} {N D : Nat} {K : Int} {n : Nat} (h : dcnt (qat N D K) = n) (h1 : 1 ≤ n) :
    TenIs (numB 10 ((txt (prQ d s N D K)).take n) * 10 ^ (if n < (txt (prQ d s N D K)).length then K + 1 else K).toNat) (10 ^ (-(if n < (txt (prQ d s N D K)).length then K + 1 else K)).toNat) (prQ d s N D K) K := by
  obtain ⟨l1, l2, _, l4⟩ := prQ_len (d := d) (s := s) h h1
  have htw := prQ_two d s N D K
  have hsp := dcnt_spec (qat N D K)
  rw [h] at hsp
  generalize prQ d s N D K = q at *
  refine ⟨Nat.pow_pos (by omega), ?_⟩
  rcases Nat.lt_or_ge n (txt q).length with hl | hl
  · have hlen : (txt q).length = n + 1 := by omega
    have hq : q = 10 ^ n := by
      have : ¬ dcnt q ≤ n := by show ¬ (txt q).length ≤ n; omega
      rw [dcnt_le] at this
      rcases htw with e | e
      · rw [e] at this; omega
      · omega
    have hq10 : q % 10 = 0 := by
      obtain ⟨m, rfl⟩ : ∃ m, n = m + 1 := ⟨n - 1, by omega⟩
      rw [hq, Nat.pow_succ]; omega
    have hst := txt_step l4
    have hlen2 : (txt (q / 10)).length = n := by
      have := congrArg List.length hst
      rw [List.length_append, hlen] at this
      simpa using this.symm
    have ht : (txt q).take n = txt (q / 10) := by rw [hst, ← hlen2, List.take_left]
    rw [if_pos hl, ht, txt_num]
    have e : q = q / 10 * 10 := by omega
    rw [Nat.mul_assoc, ← Nat.pow_add]
    have e2 : (K + 1).toNat + (-K).toNat = K.toNat + (-(K + 1)).toNat + 1 := by omega
    rw [e2, Nat.pow_succ, Nat.pow_add]
    generalize 10 ^ K.toNat = X
    generalize 10 ^ (-(K + 1)).toNat = Y
    calc q / 10 * (X * Y * 10) = q / 10 * 10 * X * Y := by ac_rfl
      _ = _ := by rw [← e]
  · have ht : (txt q).take n = txt q := List.take_of_length_le hl
    rw [if_neg (by omega), ht, txt_num]
theorem ten_shift {P Q q : Nat} {K : Int} (h : TenIs P Q (q * 10) K) : TenIs P Q q (K + 1) := by
  refine ⟨h.1, ?_⟩
  have h2 := h.2
  have hp : (10 : Nat) ^ (-(K + 1)).toNat * (10 * 10 ^ K.toNat) = 10 ^ (K + 1).toNat * 10 ^ (-K).toNat := by
    rw [Nat.mul_comm 10, ← Nat.pow_succ, ← Nat.pow_add, ← Nat.pow_add, show (-(K + 1)).toNat + K.toNat.succ = (K + 1).toNat + (-K).toNat by omega]
  have h0 : 0 < 10 ^ (-K).toNat := Nat.pow_pos (by omega)
  refine Nat.eq_of_mul_eq_mul_right h0 ?_
  generalize (10 : Nat) ^ (-(K + 1)).toNat = a at *
  generalize (10 : Nat) ^ (K + 1).toNat = c at *
  generalize (10 : Nat) ^ K.toNat = u at *
  generalize (10 : Nat) ^ (-K).toNat = t at *
  calc P * a * t = P * t * a := by ac_rfl
    _ = q * 10 * u * Q * a := by rw [h2]
    _ = q * Q * (a * (10 * u)) := by ac_rfl
    _ = q * Q * (c * t) := by rw [hp]
    _ = _ := by ac_rfl
/-- Which of the two lies nearer. -/
theorem mid_cmp {N D P Q P' Q' W W' : Nat} {K : Int} (hD : 0 < D) (h : TenIs P Q W K) (h' : TenIs P' Q' W' K) :
    icmp (((N : Int) * Q - P * D) * ((Q' : Int) * D)) (((P' : Int) * D - N * Q') * ((D : Int) * Q)) = icmp (((N * 10 ^ (-K).toNat : Nat) : Int) - ((W * (D * 10 ^ K.toNat) : Nat) : Int)) (((W' * (D * 10 ^ K.toNat) : Nat) : Int) - ((N * 10 ^ (-K).toNat : Nat) : Int)) := by
  obtain ⟨hQ, e⟩ := h
  obtain ⟨hQ', e'⟩ := h'
  have ht : 0 < 10 ^ (-K).toNat := Nat.pow_pos (by omega)
  generalize 10 ^ (-K).toNat = t at *
  generalize 10 ^ K.toNat = u at *
  have E : (P : Int) * t = W * u * Q := by exact_mod_cast e
  have E' : (P' : Int) * t = W' * u * Q' := by exact_mod_cast e'
  have hc : 0 < Q * Q' * D := Nat.mul_pos (Nat.mul_pos hQ hQ') hD
  rw [← icmp_mul _ _ ht, ← icmp_mul (((N * t : Nat) : Int) - _) _ hc]
  have X : ((N : Int) * Q - P * D) * ((Q' : Int) * D) * (t : Int) = (((N * t : Nat) : Int) - ((W * (D * u) : Nat) : Int)) * ((Q * Q' * D : Nat) : Int) := by
    push_cast
    calc ((N : Int) * Q - P * D) * ((Q' : Int) * D) * t = ((N : Int) * t * Q - (P * t) * D) * (Q' * D) := by grind
      _ = ((N : Int) * t * Q - (W * u * Q) * D) * (Q' * D) := by rw [E]
      _ = _ := by grind
  have Y : ((P' : Int) * D - N * Q') * ((D : Int) * Q) * (t : Int) = (((W' * (D * u) : Nat) : Int) - ((N * t : Nat) : Int)) * ((Q * Q' * D : Nat) : Int) := by
    push_cast
    calc ((P' : Int) * D - N * Q') * ((D : Int) * Q) * t = ((P' : Int) * t * D - N * t * Q') * (D * Q) := by grind
      _ = ((W' * u * Q' : Int) * D - N * t * Q') * (D * Q) := by rw [E']
      _ = _ := by grind
  rw [X, Y]
theorem half_rel {q B m S : Nat} (hB : 0 < B) (hS : 0 < S) (h : q * B = m * S) : (2 * m < B ↔ q * 2 < S) ∧ (2 * m = B ↔ q * 2 = S) := by
  have l : ∀ {a b c d : Nat}, 0 < b → 0 < d → a * b = c * d → 2 * c < b → a * 2 < d := by
    intro a b c d hb hd e h2
    refine Nat.lt_of_mul_lt_mul_right (a := b) ?_
    calc a * 2 * b = 2 * (a * b) := by ac_rfl
      _ = 2 * (c * d) := by rw [e]
      _ = 2 * c * d := (Nat.mul_assoc _ _ _).symm
      _ < b * d := Nat.mul_lt_mul_of_pos_right h2 hd
      _ = d * b := Nat.mul_comm _ _
  refine ⟨⟨l hB hS h, fun h2 => ?_⟩, fun h2 => ?_, fun h2 => ?_⟩
  · have := l (a := m) (b := S) (c := q) (d := B) hS hB h.symm (by omega)
    omega
  · refine Nat.eq_of_mul_eq_mul_right hB ?_
    calc q * 2 * B = 2 * (q * B) := by ac_rfl
      _ = 2 * m * S := by rw [h, Nat.mul_assoc]
      _ = S * B := by rw [h2, Nat.mul_comm]
  · refine Nat.eq_of_mul_eq_mul_right hS ?_
    calc 2 * m * S = 2 * (m * S) := Nat.mul_assoc _ _ _
      _ = q * 2 * B := by rw [← h]; ac_rfl
      _ = B * S := by rw [h2, Nat.mul_comm]
theorem icmp_half (m B : Nat) : (icmp (m : Int) ((B : Int) - m) < 0 ↔ 2 * m < B) ∧ (icmp (m : Int) ((B : Int) - m) = 0 ↔ 2 * m = B) := by
  unfold icmp
  refine ⟨?_, ?_⟩
  · split
    · constructor <;> intro <;> omega
    · split <;> constructor <;> intro <;> omega
  · split
    · constructor <;> intro <;> omega
    · split <;> constructor <;> intro <;> omega
theorem qat_cross {b : Nat} {N D : Nat} (hN : N = fbF b * 2 ^ ((fbE b : Int) - 1074).toNat) (hD : D = 2 ^ (-((fbE b : Int) - 1074)).toNat) (k : Int) (i : Nat) :
    sR b k * 10 ^ i * (D * 10 ^ (k - (i : Int)).toNat) = N * 10 ^ (-(k - (i : Int))).toNat * sS b k := by
  unfold sR sS
  obtain ⟨c, hc⟩ : ∃ c, (if mgE b = true then 4 else 2) = c := ⟨_, rfl⟩
  have hR : mgR b = c * N := by unfold mgR; rw [hc, hN, Nat.mul_assoc]
  have hS : mgS b = c * D := by unfold mgS; rw [hc, hD]
  rw [hR, hS]
  have hp : (10 : Nat) ^ (-k).toNat * 10 ^ i * 10 ^ (k - (i : Int)).toNat = 10 ^ (-(k - (i : Int))).toNat * 10 ^ k.toNat := by
    rw [← Nat.pow_add, ← Nat.pow_add, ← Nat.pow_add, show (-k).toNat + i + (k - (i : Int)).toNat = (-(k - (i : Int))).toNat + k.toNat by omega]
  clear hN hD hR hS hc
  generalize (10 : Nat) ^ (-k).toNat = t1 at *
  generalize (10 : Nat) ^ i = t2 at *
  generalize (10 : Nat) ^ (k - (i : Int)).toNat = t3 at *
  generalize (10 : Nat) ^ (-(k - (i : Int))).toNat = t4 at *
  generalize (10 : Nat) ^ k.toNat = t5 at *
  calc c * N * t1 * t2 * (D * t3) = c * N * D * (t1 * t2 * t3) := by ac_rfl
    _ = c * N * D * (t4 * t5) := by rw [hp]
    _ = _ := by ac_rfl
end Go.Proofs.YtcomkgmonhidhaaGreatDoor
end

section
namespace Go.Proofs.YtcomkgmonhidhaaGreatDoor
set_option linter.unusedVariables false
set_option linter.unusedSimpArgs false
open Go.RowKit Verge

theorem take_eq {q n : Nat} {K : Int} (hl : (txt q).length = n) (s : Bool) : ftext s ((txt q).take n) (if n < (txt q).length then K + 1 else K) = ftext s (txt q) K := by
  rw [hl, if_neg (by omega), List.take_of_length_le (by omega)]
theorem rou_round {b : Nat} {k : Int} {i : Nat} (h : ShtOk b k i) (hb : b < 18446744073709551616) (hw : fwrong b = false) (hF : fbF b ≠ 0) (s : Bool) {N D : Nat} (hN : N = fbF b * 2 ^ ((fbE b : Int) - 1074).toNat) (hD : D = 2 ^ (-((fbE b : Int) - 1074)).toNat)
    {n : Nat} (n1 : 1 ≤ n) (hn : n ≤ (txt (sF b k i)).length) {K : Int} (hK : dcnt (qat N D K) = n) {P Q P' Q' : Nat} (hT : TenIs P Q (prQ (-1) false N D K) K) (hT' : TenIs P' Q' (prQ 1 false N D K) K) {lw hg ev : Bool} {cc : Int}
    (hlw : decide (rngN (P * 2 ^ KU) Q = b % 9223372036854775808) = lw) (hhg : decide (rngN (P' * 2 ^ KU) Q' = b % 9223372036854775808) = hg)
    (hcc : icmp (((N : Int) * Q - P * D) * ((Q' : Int) * D)) (((P' : Int) * D - N * Q') * ((D : Int) * Q)) = cc) (hev : decide (prQ (-1) false N D K % 2 = 0) = ev) :
    (n < (txt (sF b k i)).length ∧ lw = false ∧ hg = false) ∨
    (n = (txt (sF b k i)).length ∧ hg = true ∧ (lw = true → ¬ cc < 0 ∧ ¬ (cc = 0 ∧ ev = true)) ∧ ftext s ((txt (prQ 1 false N D K)).take n) (if n < (txt (prQ 1 false N D K)).length then K + 1 else K) = ftext s (txt (sF b k i)) (k - i)) ∨
    (n = (txt (sF b k i)).length ∧ lw = true ∧ (hg = true → cc < 0 ∨ (cc = 0 ∧ ev = true)) ∧ ftext s ((txt (prQ (-1) false N D K)).take n) (if n < (txt (prQ (-1) false N D K)).length then K + 1 else K) = ftext s (txt (sF b k i)) (k - i)) := by
  have hD0 : 0 < D := by rw [hD]; exact Nat.two_pow_pos _
  obtain ⟨hp, _⟩ := mg_bounds b hF
  obtain ⟨s1, s2, s3, s4, s5, s6⟩ := sht_start h.top hp
  have hi1 := h.i1
  rw [mid_cmp hD0 hT hT'] at hcc
  have hdm : qat N D K * (D * 10 ^ K.toNat) + N * 10 ^ (-K).toNat % (D * 10 ^ K.toNat) = N * 10 ^ (-K).toNat := by
    unfold qat; rw [Nat.mul_comm]; exact Nat.div_add_mod _ _
  have hB0 : 0 < D * 10 ^ K.toNat := Nat.mul_pos hD0 (Nat.pow_pos (by omega))
  have qm : prQ (-1) false N D K = qat N D K := by
    rw [prQ_dir (.inr rfl), if_neg (fun g => by simp at g)]
  have q1 : prQ 1 false N D K = if N * 10 ^ (-K).toNat % (D * 10 ^ K.toNat) ≠ 0 then qat N D K + 1 else qat N D K := by
    rw [prQ_dir (.inl rfl)]
    by_cases g : N * 10 ^ (-K).toNat % (D * 10 ^ K.toNat) ≠ 0
    · rw [if_pos ⟨g, by decide⟩, if_pos g]
    · rw [if_neg (fun e => g e.1), if_neg g]
  rcases Nat.eq_zero_or_pos (sP b k 1) with h0 | h1
  · obtain ⟨rfl, hf, o1, o2⟩ := sht_odd h hF h0
    have o3 := sht_odd2 h hF h0
    have t1 : txt 1 = [49] := by decide +kernel
    have t10 : txt 10 = [49, 48] := by decide +kernel
    have hlen : (txt (sF b k 1)).length = 1 := by rw [hf, t1]; rfl
    rw [hlen] at hn ⊢
    obtain rfl : n = 1 := by omega
    have hq := sP_qat hN hD k 2
    have hq9 : sP b k 2 = 9 := by
      unfold sP
      rw [show (10 : Nat) ^ 2 = 100 from rfl]
      refine Nat.div_eq_of_lt_le ?_ ?_ <;> omega
    have hd : sS b k * sP b k 2 + sQ b k 2 = sR b k * 10 ^ 2 := Nat.div_add_mod (sR b k * 10 ^ 2) (sS b k)
    rw [hq9, show (10 : Nat) ^ 2 = 100 from rfl] at hd
    have hqn : sQ b k 2 ≠ 0 := by intro e; omega
    have hd9 : dcnt 9 = 1 := by decide +kernel
    obtain rfl : K = k - (2 : Nat) := qat_one hD0 (by omega) hK (by rw [← hq.1, hq9]; exact hd9)
    have hm0 : N * 10 ^ (-(k - ((2 : Nat) : Int))).toNat % (D * 10 ^ (k - ((2 : Nat) : Int)).toNat) ≠ 0 := fun hz => hqn (hq.2.2 hz)
    have q1' : prQ 1 false N D (k - (2 : Nat)) = 10 := by rw [q1, if_pos hm0, ← hq.1, hq9]
    have ek : k - ((2 : Nat) : Int) + 1 = k - ((1 : Nat) : Int) := by omega
    right; left
    refine ⟨rfl, ?_, fun _ => ?_, ?_⟩
    · rw [← hhg]
      refine decide_eq_true ?_
      rw [q1'] at hT'
      have ht2 := ten_shift (q := 1) hT'
      rw [ek] at ht2
      have hP1 : sP b k 1 + 1 = 1 := by rw [h0]
      exact (read_hi hb hF s5 (j := 1) (by rw [hP1]; exact ht2)).2 (sht_first h.low h0)
    · obtain ⟨e, r⟩ := div_rest (a := sR b k * 10 ^ 2) (b := sS b k) (c := N * 10 ^ (-(k - ((2 : Nat) : Int))).toNat) (d := D * 10 ^ (k - ((2 : Nat) : Int)).toNat) s5 hB0 (qat_cross hN hD k 2)
      have hr := half_rel hB0 s5 r
      have hsq : sR b k * 10 ^ 2 % sS b k = sQ b k 2 := rfl
      rw [hsq] at hr
      rw [qm, q1', ← hq.1, hq9] at hcc
      rw [← hq.1, hq9] at hdm
      generalize D * 10 ^ (k - ((2 : Nat) : Int)).toNat = B at *
      generalize N * 10 ^ (-(k - ((2 : Nat) : Int))).toNat = Nt at *
      generalize Nt % B = m at *
      have hh := icmp_half m B
      rw [show ((Nt : Nat) : Int) - ((9 * B : Nat) : Int) = (m : Int) by omega, show ((10 * B : Nat) : Int) - ((Nt : Nat) : Int) = (B : Int) - m by omega] at hcc
      rw [hcc] at hh
      have a1 : ¬ 2 * m < B := by rw [hr.1]; omega
      have a2 : ¬ 2 * m = B := by rw [hr.2]; omega
      exact ⟨fun hc => a1 (hh.1.1 hc), fun hc => a2 (hh.2.1 hc.1)⟩
    · rw [q1', t10, hf, t1, ← ek]; rfl
  · have hlen : (txt (sF b k i)).length = i := by
      rcases (few_text h hb hw hF (s := s) hN hD).2.2.2 with g | g
      · have hc1 := sP_cnt h hF h1 i hi1
        have hge : sP b k i ≤ sF b k i := by unfold sF; split <;> omega
        have : ¬ dcnt (sF b k i) ≤ i - 1 := by
          rw [dcnt_le]
          have : ¬ dcnt (sP b k i) ≤ i - 1 := by omega
          rw [dcnt_le] at this
          omega
        have h2 : (txt (sF b k i)).length = dcnt (sF b k i) := rfl
        omega
      · exact g.1
    rw [hlen] at hn ⊢
    have hcnt := sP_cnt h hF h1 n n1
    have hq := sP_qat hN hD k n
    obtain rfl : K = k - n := qat_one hD0 n1 hK (by rw [← hq.1]; exact hcnt)
    obtain ⟨e, r⟩ := div_rest (a := sR b k * 10 ^ n) (b := sS b k) (c := N * 10 ^ (-(k - (n : Int))).toNat) (d := D * 10 ^ (k - (n : Int)).toNat) s5 hB0 (qat_cross hN hD k n)
    have hr := half_rel hB0 s5 r
    have hsq : sR b k * 10 ^ n % sS b k = sQ b k n := rfl
    rw [hsq] at hr
    have hmod : sQ b k n < sS b k := Nat.mod_lt _ s5
    have e1 : lw = sLo b k n := by
      rw [← hlw]
      rw [qm, ← hq.1] at hT
      have := read_lo hb hF hT
      cases hx : sLo b k n
      · exact decide_eq_false (fun hc => by rw [this.1 hc] at hx; cases hx)
      · exact decide_eq_true (this.2 hx)
    have hM : 0 < sL b k * 10 ^ n := Nat.mul_pos s6 (Nat.pow_pos (by omega))
    rw [qm, ← hq.1] at hcc hev
    rw [qm, ← hq.1]
    by_cases hm0 : N * 10 ^ (-(k - (n : Int))).toNat % (D * 10 ^ (k - (n : Int)).toNat) = 0
    · have hsq0 : sQ b k n = 0 := hq.2.2 hm0
      have hlo : sLo b k n = true := by unfold sLo loB; exact decide_eq_true (.inl (by omega))
      have hni : n = i := by
        refine Classical.byContradiction fun hc => ?_
        have := (h.run n n1 (by omega)).2
        rw [hlo] at this; cases this
      subst hni
      have hup : sUp b k n = false := by
        cases hx : sUp b k n
        · rfl
        · exfalso
          unfold sUp at hx
          simp only [Bool.and_eq_true, Bool.or_eq_true, Bool.not_eq_true', decide_eq_true_eq] at hx
          rcases hx.2 with g | g
          · rw [hlo] at g; cases g
          · omega
      have hsF : sF b k n = sP b k n := by unfold sF; rw [hup]; simp
      have q1' : prQ 1 false N D (k - n) = sP b k n := by rw [q1, if_neg (by simpa using hm0), ← hq.1]
      rw [hm0, Nat.add_zero, ← hq.1] at hdm
      rw [q1'] at hT' hcc ⊢
      rw [← hdm, Int.sub_self] at hcc
      have hc0 : cc = 0 := by rw [← hcc]; exact icmp_self 0
      have e2 : hg = true := by
        rw [← hhg]; exact decide_eq_true ((read_lo hb hF hT').2 hlo)
      rw [hlo] at e1
      rw [hsF] at hlen ⊢
      cases hx : ev
      · right; left
        refine ⟨rfl, e2, fun _ => ⟨by omega, fun g => by simp at g⟩, take_eq hlen s⟩
      · right; right
        refine ⟨rfl, e1, fun _ => .inr ⟨hc0, rfl⟩, take_eq hlen s⟩
    · have q1' : prQ 1 false N D (k - n) = sP b k n + 1 := by rw [q1, if_pos hm0, ← hq.1]
      rw [q1'] at hT' hcc ⊢
      have e2 : hg = sHi b k n := by
        rw [← hhg]
        have := read_hi hb hF s5 hT'
        cases hx : sHi b k n
        · exact decide_eq_false (fun hc => by rw [this.1 hc] at hx; cases hx)
        · exact decide_eq_true (this.2 hx)
      rw [← hq.1] at hdm
      have hst := h.stop
      have hrun := h.run n n1
      have hf : sF b k n = if sUp b k n = true then sP b k n + 1 else sP b k n := rfl
      have hu : sUp b k n = (sHi b k n && (!sLo b k n || decide (sS b k < sQ b k n * 2 ∨ sQ b k n * 2 = sS b k ∧ sP b k n % 2 = 1))) := rfl
      generalize D * 10 ^ (k - (n : Int)).toNat = B at *
      generalize N * 10 ^ (-(k - (n : Int))).toNat = Nt at *
      generalize Nt % B = m at *
      have hh := icmp_half m B
      have hmul : (sP b k n + 1) * B = sP b k n * B + B := Nat.succ_mul _ _
      rw [show ((Nt : Nat) : Int) - ((sP b k n * B : Nat) : Int) = (m : Int) by omega, show (((sP b k n + 1) * B : Nat) : Int) - ((Nt : Nat) : Int) = (B : Int) - m by omega] at hcc
      rw [hcc, hr.1, hr.2] at hh
      by_cases hni : n = i
      · subst hni
        have hev' : ev = true ↔ sP b k n % 2 = 0 := by rw [← hev, decide_eq_true_eq]
        rw [e1, e2]
        cases hU : sUp b k n
        · rw [hU] at hf hu
          rw [if_neg (by simp)] at hf
          right; right
          have hlo : sLo b k n = true := by
            rcases hst with g | g
            · cases hx : sLo b k n
              · rw [g, hx] at hu; simp at hu
              · rfl
            · exact g
          rw [hf] at hlen ⊢
          refine ⟨rfl, hlo, fun g => ?_, take_eq hlen s⟩
          rw [g, hlo] at hu
          have := of_decide_eq_false (show decide (sS b k < sQ b k n * 2 ∨ sQ b k n * 2 = sS b k ∧ sP b k n % 2 = 1) = false by simpa using hu.symm)
          by_cases hlt : sQ b k n * 2 < sS b k
          · exact .inl (hh.1.2 hlt)
          · exact .inr ⟨hh.2.2 (by omega), hev'.2 (by omega)⟩
        · rw [hU] at hf hu
          rw [if_pos rfl] at hf
          right; left
          have hu2 := hu.symm
          simp only [Bool.and_eq_true, Bool.or_eq_true, Bool.not_eq_true', decide_eq_true_eq] at hu2
          rw [hf] at hlen ⊢
          refine ⟨rfl, hu2.1, fun g => ?_, take_eq hlen s⟩
          rcases hu2.2 with g2 | g2
          · rw [g] at g2; cases g2
          · refine ⟨fun hc => ?_, fun hc => ?_⟩
            · have := hh.1.1 hc; omega
            · have := hh.2.1 hc.1
              have := hev'.1 hc.2
              omega
      · left
        obtain ⟨r1, r2⟩ := hrun (by omega)
        exact ⟨by omega, by rw [e1, r2], by rw [e2, r1]⟩
end Go.Proofs.YtcomkgmonhidhaaGreatDoor
end

section
namespace Go.Proofs.YtcomkgmonhidhaaGreatDoor
set_option linter.unusedVariables false
set_option linter.unusedSimpArgs false
open Go.RowKit Verge

/-- A number's magnitude as a ratio of its bits. -/
theorem fb_rv {b : Nat} (hF : fbF b ≠ 0) (hw : fwrong b = false) {N D : Nat} (hN : N = fbF b * 2 ^ ((fbE b : Int) - 1074).toNat) (hD : D = 2 ^ (-((fbE b : Int) - 1074)).toNat) {A1 A2 : Option Addr} {c1 c2 : Nat} {W : World} (h1 : Rd W A1 (dig (fbN b))) (h2 : Rd W A2 (dig (fbD b))) :
    IsRV (N : Int) D 100 (.agg #[.bool false, .slice A1 (dig (fbN b)).length c1, .slice A2 (dig (fbD b)).length c2]) W := by
  have hD0 : 0 < D := by rw [hD]; exact Nat.two_pow_pos _
  have hE : fbE b ≤ 2045 := by
    unfold fwrong fabs at hw
    have := of_decide_eq_false hw
    unfold fbE; omega
  have hFl : (dig (fbF b)).length ≤ 2 := by
    have := dig_len16 (n := fbF b) (i := 14) (by have := fbF_lt b; omega)
    omega
  have h1l : (dig 1).length = 1 := by rw [dig_one]; rfl
  have n1 : (dig (fbN b)).length ≤ 100 := by
    have := fracN_len (fbF b) 1 ((fbE b : Int) - 1074)
    unfold fbN
    omega
  have n2 : (dig (fbD b)).length ≤ 100 := by
    have := fracD_len (fbF b) 1 ((fbE b : Int) - 1074)
    unfold fbD
    omega
  have hV : N * 2 ^ KU = FV (b % 9223372036854775808) * D := by
    obtain ⟨z, hz⟩ : ∃ z, KU = z := ⟨_, rfl⟩
    have hz2 : z = 1074 := by rw [← hz]; rfl
    rw [FV_fb, hN, hD, hz, Nat.mul_assoc, ← Nat.pow_add, Nat.mul_assoc, ← Nat.pow_add, show ((fbE b : Int) - 1074).toNat + z = fbE b + (-((fbE b : Int) - 1074)).toNat by omega]
  have hf := fb_val b KU rfl
  have hW : 0 < 2 ^ KU := Nat.two_pow_pos _
  have hfd : 0 < fbD b := by
    unfold fbD fracD
    rw [if_neg hF]
    refine Nat.mul_pos ?_ (Nat.two_pow_pos _)
    rw [show ntz 1 = 0 from ntz_of 1 0 0 (by simp)]
    simp
  have hcr : fbN b * D = N * fbD b := by
    refine Nat.eq_of_mul_eq_mul_right hW ?_
    generalize 2 ^ KU = U at *
    calc fbN b * D * U = fbN b * U * D := by ac_rfl
      _ = FV (b % 9223372036854775808) * fbD b * D := by rw [hf]
      _ = FV (b % 9223372036854775808) * D * fbD b := by ac_rfl
      _ = N * U * fbD b := by rw [← hV]
      _ = _ := by ac_rfl
  refine ⟨false, dig (fbN b), dig (fbD b), ⟨_, _, rfl, ⟨A1, c1, rfl, h1⟩, ⟨A2, c2, rfl, h2⟩⟩, hD0, ?_, ?_, n1, n2⟩
  · rw [val_dig]; exact hfd
  · rw [val_dig, val_dig]
    show ((fbN b : Nat) : Int) * (D : Int) = _
    exact_mod_cast hcr
theorem fin_tens {b : Nat} (hF : fbF b ≠ 0) (hw : fwrong b = false) {N D : Nat} (hN : N = fbF b * 2 ^ ((fbE b : Int) - 1074).toNat) (hD : D = 2 ^ (-((fbE b : Int) - 1074)).toNat) : ¬ belowT N D (-336) ∧ belowT N D 336 ∧ 0 < D ∧ 0 < N := by
  have hFl := fbF_blen b
  have hE : fbE b ≤ 2047 := by unfold fbE; omega
  have hNb : blen N ≤ 1060 := by
    rw [hN]
    have : blen (fbF b * 2 ^ ((fbE b : Int) - 1074).toNat) ≤ 53 + (((fbE b : Int) - 1074).toNat + 1) := blen_mul_le hFl (by
      rw [blen_of _ _ (Nat.le_refl _) (Nat.pow_lt_pow_right (by omega) (by omega))]; omega)
    omega
  have hDb : blen D ≤ 1075 := by
    rw [hD, blen_of _ _ (Nat.le_refl _) (Nat.pow_lt_pow_right (by omega) (by omega))]; omega
  have hD0 : 0 < D := by rw [hD]; exact Nat.two_pow_pos _
  have hN0 : 0 < N := by rw [hN]; exact Nat.mul_pos (Nat.pos_of_ne_zero hF) (Nat.two_pow_pos _)
  refine ⟨?_, ?_, hD0, hN0⟩
  · have h3 := (blen_lt D _).1 (show blen D ≤ 1116 by omega)
    have h4 := pow_336
    unfold belowT
    rw [show (-(-336 : Int)).toNat = 336 from rfl, show ((-336 : Int)).toNat = 0 from rfl, Nat.pow_zero, Nat.mul_one]
    generalize (2 : Nat) ^ 1116 = p2 at *
    generalize (10 : Nat) ^ 336 = p10 at *
    have := Nat.mul_le_mul hN0 (Nat.le_refl p10)
    omega
  · have h3 := (blen_lt N _).1 (show blen N ≤ 1116 by omega)
    have h4 := pow_336
    unfold belowT
    rw [show (-(336 : Int)).toNat = 0 from rfl, show ((336 : Int)).toNat = 336 from rfl, Nat.pow_zero, Nat.mul_one]
    generalize (2 : Nat) ^ 1116 = p2 at *
    generalize (10 : Nat) ^ 336 = p10 at *
    have := Nat.mul_le_mul hD0 (Nat.le_refl p10)
    omega
theorem ten_mul {M n : Nat} {k : Int} {v : Value} {W : World} (h : IsRV (sv false (M * 2 ^ (0 : Int).toNat) * ((10 ^ k.toNat : Nat) : Int)) (1 * 2 ^ (-(0 : Int)).toNat * 10 ^ (-k).toNat) n v W) : IsRV ((M * 10 ^ k.toNat : Nat) : Int) (10 ^ (-k).toNat) n v W := by
  have e1 : sv false (M * 2 ^ (0 : Int).toNat) = ((M : Nat) : Int) := by show ((M * 2 ^ 0 : Nat) : Int) = _; rw [Nat.pow_zero, Nat.mul_one]
  have e2 : 1 * 2 ^ (-(0 : Int)).toNat * 10 ^ (-k).toNat = 10 ^ (-k).toNat := by show 1 * 2 ^ 0 * _ = _; rw [Nat.pow_zero, Nat.mul_one, Nat.one_mul]
  rw [e1, e2, ← Int.natCast_mul] at h
  exact h
theorem numB_small (l : List UInt8) (hl : ∀ c ∈ l, isD c = true) (h : l.length ≤ 1101) : (dig (numB 10 l)).length ≤ 9000 := by
  have h1 := Verge.numB_lt 10 l (fun c hc => by
    have := isD_iff.1 (hl c hc)
    unfold dvl; rw [if_pos (by omega)]; omega)
  have := dig_len16 (n := numB 10 l) (i := l.length) (Nat.lt_of_lt_of_le h1 (Nat.pow_le_pow_left (by omega) _))
  omega
theorem bits_eq {P Q r : Nat} {lw : Bool} (hr : r ≤ 9218868437227405311) (h : decide (rngN (P * 2 ^ KU) Q = r) = lw) : (((rat3 0 ((P : Nat) : Int) Q KU : Nat) : Int) == (r : Int)) = lw := by
  have e : rat3 0 ((P : Nat) : Int) Q KU = min (rngN (P * 2 ^ KU) Q) 9218868437227405312 := by
    unfold rat3
    rw [decide_eq_false (by omega), fpat_f, rng_near, Int.natAbs_natCast]
  rw [e, ← h]
  generalize rngN (P * 2 ^ KU) Q = x
  by_cases hx : x = r
  · subst hx
    rw [decide_eq_true rfl, Nat.min_eq_left (by omega)]; simp
  · rw [decide_eq_false hx]
    simp
    omega
theorem last_even {q : Nat} (h : 0 < q) : ∃ L c, (txt q).length = L + 1 ∧ (txt q)[L]? = some c ∧ c.toNat = 48 + q % 10 := by
  have hst := txt_step h
  refine ⟨(txt (q / 10)).length, UInt8.ofNat (48 + q % 10), by rw [hst]; simp, ?_, ?_⟩
  · rw [hst, List.getElem?_append_right (Nat.le_refl _), Nat.sub_self]; rfl
  · rw [UInt8.toNat_ofNat']; omega
end Go.Proofs.YtcomkgmonhidhaaGreatDoor
end
